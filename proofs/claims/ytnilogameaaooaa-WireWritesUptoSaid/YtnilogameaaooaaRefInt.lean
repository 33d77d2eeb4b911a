/- depotref03.Int tells the eight bytes, the lowest first. -/
import Derived.Test.YtnilogameaaooaaQ2
import Derived.Test.YtnilogameaaooaaExtInt
import Derived.Test.YtnilogameaaooaaEv
set_option linter.unusedVariables false
set_option linter.unusedSimpArgs false
namespace Go.Proofs.Ytnilogameaaooaa.Pure
open Go.RowKit Go.Proofs.Ytnilogameaaooaa.Q Go.Proofs.YtnilogameaaooaaW.PrintWords Go.Proofs.YtnilogameaaooaaW.PrintLast Go.Proofs.YtnilogameaaooaaW.PrintMore Go.Proofs.Ytnilogameaaooaa.Bytes Go.Proofs.Ytnilogameaaooaa.Evs

theorem pow_step (n : Int) (i : Nat) : n / 2 ^ (8 * i) / 256 = n / 2 ^ (8 * (i + 1)) := by
  rw [Int.ediv_ediv_of_nonneg (by exact Int.pow_nonneg (by omega))]
  congr 1
  rw [show 8 * (i + 1) = 8 * i + 8 by omega, Int.pow_add]
  rfl
theorem pow_bound (n : Int) (i : Nat) (h0 : 0 ≤ n) (h1 : n < 18446744073709551616) : 0 ≤ n / 2 ^ (8 * i) ∧ n / 2 ^ (8 * i) < 18446744073709551616 := by
  have hp : (0 : Int) < 2 ^ (8 * i) := Int.pow_pos (by omega)
  refine ⟨Int.ediv_nonneg h0 (Int.le_of_lt hp), Int.lt_of_le_of_lt (Int.ediv_le_self _ h0) h1⟩
theorem refInt_step (n : Int) (h0 : 0 ≤ n) (h1 : n < 18446744073709551616) : ∀ (d i : Nat), i + d = 8 → Ev (fun k => depotref03_Int.l0 k (n / 2 ^ (8 * i)) (row8 n i) (i : Int)) (strOfNums (le8 n)) := by
  intro d
  induction d with
  | zero =>
    intro i hi
    obtain rfl : i = 8 := by omega
    apply succ
    simp only [depotref03_Int.l0]
    refine neg (by omega) (now ?_)
    rw [row8_all]
  | succ d ih =>
    intro i hi
    have ih := ih (i + 1) (by omega)
    obtain ⟨b0, b1⟩ := pow_bound n i h0 h1
    apply succ
    simp only [depotref03_Int.l0]
    refine pos (by omega) (pos (by omega) (pos (by rw [row8_len]; omega) ?_))
    have e1 : IntKind.u64.wrap (Int.tdiv (n / 2 ^ (8 * i)) 256) = n / 2 ^ (8 * (i + 1)) := by
      rw [Int.tdiv_eq_ediv_of_nonneg b0, pow_step]
      obtain ⟨c0, c1⟩ := pow_bound n (i + 1) h0 h1
      exact Int.emod_eq_of_lt c0 c1
    have e2 : Int.tmod (n / 2 ^ (8 * i)) 256 % 256 = n / 2 ^ (8 * i) % 256 := by
      rw [Int.tmod_eq_emod_of_nonneg b0]
      omega
    rw [e1, e2, Int.toNat_natCast, row8_set n i (by omega), wr i (by omega)]
    exact ih
theorem refInt (n : Int) (h0 : 0 ≤ n) (h1 : n < 18446744073709551616) : Ev (fun k => depotref03_Int.f k n) (strOfNums (le8 n)) := by
  have h := refInt_step n h0 h1 8 0 rfl
  simp only [depotref03_Int.f]
  refine pos (by omega) ?_
  have e1 : n / 2 ^ (8 * 0) = n := by simp
  have e2 : row8 n 0 = List.replicate 8 0 := rfl
  rw [e1, e2] at h
  exact h
end Go.Proofs.Ytnilogameaaooaa.Pure
