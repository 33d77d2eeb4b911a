/- depotlaw03.WireWrites answers true for every number, text and length, the text not longer than Framed tells the room of. -/
import Derived.Test.YtnilogameaaooaaQ17
import Derived.Test.YtnilogameaaooaaExtWireText
import Derived.Test.YtnilogameaaooaaEv
set_option linter.unusedVariables false
set_option linter.unusedSimpArgs false
namespace Go.Proofs.Ytnilogameaaooaa.Pure
open Go.RowKit Go.Proofs.Ytnilogameaaooaa.Q Go.Proofs.YtnilogameaaooaaW.PrintWords Go.Proofs.YtnilogameaaooaaW.PrintLast Go.Proofs.YtnilogameaaooaaW.PrintMore Go.Proofs.Ytnilogameaaooaa.Bytes Go.Proofs.Ytnilogameaaooaa.Evs Go.Proofs.Ytnilogameaaooaa.Tail

theorem framed_up (n : Int) (h : 0 ≤ n) : ∀ (d : Nat) (m : Int), n ≤ m → m ≤ 1099511627784 → (m + d) % 8 = 0 → d < 8 → Ev (fun k => depotref03_Framed.l0 k m) (8 + (m + 7) / 8 * 8) := by
  intro d
  induction d with
  | zero =>
    intro m h1 h2 h3 h4
    apply succ
    simp only [depotref03_Framed.l0]
    rw [Int.tmod_eq_emod_of_nonneg (by omega)]
    refine pos (by omega) (now ?_)
    rw [w64 (by omega) (by omega)]
    congr 1
    omega
  | succ d ih =>
    intro m h1 h2 h3 h4
    apply succ
    simp only [depotref03_Framed.l0]
    rw [Int.tmod_eq_emod_of_nonneg (by omega)]
    refine neg (by omega) ?_
    rw [w64 (by omega) (by omega)]
    refine same ?_ (ih (m + 1) (by omega) (by omega) (by omega) (by omega))
    omega
theorem framed_in (n : Int) (h0 : 0 ≤ n) (h1 : n ≤ 1099511627776) : wire_Framed.f n = some (8 + (n + 7) / 8 * 8) := by
  unfold wire_Framed.f
  rw [if_neg (by omega), if_neg (by omega), w64 (x := n + 7) (by omega) (by omega), Int.tdiv_eq_ediv_of_nonneg (by omega), w64 (x := (n + 7) / 8) (by omega) (by omega), w64 (x := (n + 7) / 8 * 8) (by omega) (by omega), w64 (by omega) (by omega)]
theorem framed (n : Int) (h : (Lit.int .i64 n).wf = true) : ∃ r, wire_Framed.f n = some r ∧ Ev (fun k => depotref03_Framed.f k n) r := by
  by_cases h0 : n < 0
  · refine ⟨0, by unfold wire_Framed.f; rw [if_pos h0], ?_⟩
    simp only [depotref03_Framed.f]
    refine pos h0 (succ ?_)
    simp only [depotref03_Framed.j0]
    exact pos trivial (now rfl)
  · by_cases h1 : n > 1099511627776
    · refine ⟨0, by unfold wire_Framed.f; rw [if_neg h0, if_pos h1], ?_⟩
      simp only [depotref03_Framed.f]
      refine neg h0 (succ ?_)
      simp only [depotref03_Framed.j0]
      exact pos (decide_eq_true h1) (now rfl)
    · refine ⟨_, framed_in n (by omega) (by omega), ?_⟩
      simp only [depotref03_Framed.f]
      refine neg h0 (succ ?_)
      simp only [depotref03_Framed.j0]
      refine neg (by rw [decide_eq_false h1]; simp) ?_
      refine framed_up n (by omega) ((8 - n % 8) % 8).toNat n (by omega) (by omega) (by omega) (by omega)
theorem WireWrites : ∀ (x0 : Int) (x1 : ByteArray) (x2 : Int), (Lit.int .u64 x0).wf = true → x1.size ≤ 140737488351232 → (Lit.int .i64 x2).wf = true → 1 + ((x1).size + 1) + 1 ≤ 1048576 → ∃ k, depotlaw03_WireWrites.f k (x0) (x1) (x2) = some true := by
  intro x0 x1 x2 h0 h1 h2 h3
  apply Ev.rounds
  simp only [depotlaw03_WireWrites.f]
  obtain ⟨q0, q1⟩ : 0 ≤ x0 ∧ x0 < 18446744073709551616 := by
    have := bounds_u64 h0
    omega
  obtain ⟨r, f1, f2⟩ := framed x2 h2
  refine call (framed_in 9 (by omega) (by omega)) (pos (by decide) (call rfl ?_))
  refine Ev.bind (refInt x0 q0 q1) (pos rfl (call (show wire_Text.f x1 = some (strOfNums (frame8 x1)) from if_pos h1) (call (show depotref03_Text.f x1 = some (strOfNums (frame8 x1)) from if_pos h1) (pos rfl (call f1 (Ev.bind f2 (pos rfl (call (framed_in _ (by omega) (by omega)) (call (show wire_Text.f x1 = some (strOfNums (frame8 x1)) from if_pos h1) (now ?_))))))))))
  rw [text_size]
  congr 1
  rw [beq_iff_eq]
  unfold padOf
  omega
end Go.Proofs.Ytnilogameaaooaa.Pure
