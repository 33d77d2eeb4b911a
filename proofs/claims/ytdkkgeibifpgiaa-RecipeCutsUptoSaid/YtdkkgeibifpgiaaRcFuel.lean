/- The recipe's reader: fuel. -/
import Derived.Test.YtdkkgeibifpgiaaRcModel
namespace Go.Proofs.Ytdkkgeibifpgiaa.Rc
set_option linter.unusedVariables false
set_option linter.unusedSimpArgs false

theorem moreL_fuel {α : Type} (one : List UInt8 → Res α) (hone : ∀ s x r, one s = .ok x r → r.length < s.length) (e : UInt8) : ∀ (n m : Nat) (s : List UInt8), s.length < n → s.length < m → moreL one e n s = moreL one e m s
  | 0, m, s, hn, hm => by omega
  | n + 1, 0, s, hn, hm => by omega
  | n + 1, m + 1, s, hn, hm => by
    rw [moreL, moreL]
    split
    · rfl
    · cases hw : wordL [44] s with
      | bad l => rfl
      | ok u r =>
        have hs := wordL_len _ _ _ hw
        have hlen : s.length = r.length + 1 := by rw [hs]; simp
        show ((one r).bind fun x r2 => (moreL one e n r2).map (x :: ·)) = ((one r).bind fun x r2 => (moreL one e m r2).map (x :: ·))
        cases ho : one r with
        | bad l => rfl
        | ok x r1 =>
          have h1 := hone _ _ _ ho
          show (moreL one e n r1).map (x :: ·) = (moreL one e m r1).map (x :: ·)
          rw [moreL_fuel one hone e n m r1 (by omega) (by omega)]
end Go.Proofs.Ytdkkgeibifpgiaa.Rc
