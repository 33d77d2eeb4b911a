/- The document's Under, walked by hand: what its Go code answers. -/
import Derived.Test.YtabgpdpdgkgmbaaQ0
import Derived.Test.YtabgpdpdgkgmbaaBytes
namespace Go.Proofs.Ytabgpdpdgkgmbaa.Q
open Go.RowKit Go.Proofs.YtabgpdpdgkgmbaaW.PrintWords Go.Proofs.YtabgpdpdgkgmbaaW.PrintLast Go.Proofs.YtabgpdpdgkgmbaaW.PrintMore Go.Proofs.Ytabgpdpdgkgmbaa.Bytes
set_option linter.unusedVariables false
set_option linter.unusedSimpArgs false

def depotref05_Under.f (a0 : ByteArray) (a1 : ByteArray) : Option (Bool) :=
  some (decide (a1.size = 0 ∨ (a1.size ≤ a0.size ∧ (a0.extract 0 a1.size).toList = a1.toList ∧ (a0.size = a1.size ∨ bt a0 (a1.size : Int) = 47))))

theorem depotref05_Under.calls (a0 : ByteArray) (a1 : ByteArray) (r : Bool) (w : World) (h : depotref05_Under.f a0 a1 = some r) :
    Calls Try.prog 9 #[.string a0, .string a1] w fun e w' => e = .returned (.bool r) ∧ Drawn0 w w' := by
  unfold depotref05_Under.f at h
  obtain rfl := Option.some.inj h
  clear h
  by_cases z : a1.size = 0
  · have c1 : ((a1.size : Int) == 0) = true := by rw [z]; rfl
    have fin : decide (a1.size = 0 ∨ (a1.size ≤ a0.size ∧ (a0.extract 0 a1.size).toList = a1.toList ∧ (a0.size = a1.size ∨ bt a0 (a1.size : Int) = 47))) = true := by simp [z]
    rw [fin]
    clear fin z
    go_enter Try.func9, Try.ntmps9
    go_wp2
    go_ret
    exact ⟨rfl, Drawn0.refl _⟩
  · have c1 : ((a1.size : Int) == 0) = false := by rw [beq_eq_false_iff_ne]; omega
    by_cases l : a0.size < a1.size
    · have fin : decide (a1.size = 0 ∨ (a1.size ≤ a0.size ∧ (a0.extract 0 a1.size).toList = a1.toList ∧ (a0.size = a1.size ∨ bt a0 (a1.size : Int) = 47))) = false := by simp [z]; omega
      rw [fin]
      clear fin z
      go_enter Try.func9, Try.ntmps9
      go_wp2
      go_ret
      exact ⟨rfl, Drawn0.refl _⟩
    · have l1 : a1.size ≤ a0.size := by omega
      have c2 : decide ((a0.size : Int) < (a1.size : Int)) = false := by rw [decide_eq_false_iff_not]; omega
      have c2' : decide (a0.size < a1.size) = false := by rw [decide_eq_false_iff_not]; omega
      by_cases p : (a0.extract 0 a1.size).toList = a1.toList
      · have c3 : ((a0.extract 0 a1.size).toList == a1.toList) = true := beq_iff_eq.2 p
        have c3' : ((a0.extract 0 a1.size).toList != a1.toList) = false := bne_eq_false_iff_eq.2 p
        by_cases q : a0.size = a1.size
        · have c4 : (a0.size == a1.size) = true := beq_iff_eq.2 q
          have c4b : ((a0.size : Int) == (a1.size : Int)) = true := beq_iff_eq.2 (by omega)
          have fin : decide (a1.size = 0 ∨ (a1.size ≤ a0.size ∧ (a0.extract 0 a1.size).toList = a1.toList ∧ (a0.size = a1.size ∨ bt a0 (a1.size : Int) = 47))) = true := by rw [decide_eq_true_iff]; exact .inr ⟨l1, p, .inl q⟩
          rw [fin]
          clear fin z p q l
          go_enter Try.func9, Try.ntmps9
          go_wp2
          go_ret
          exact ⟨rfl, Drawn0.refl _⟩
        · have l2 : a1.size < a0.size := by omega
          have c4 : (a0.size == a1.size) = false := beq_eq_false_iff_ne.2 q
          have c4b : ((a0.size : Int) == (a1.size : Int)) = false := beq_eq_false_iff_ne.2 (by omega)
          have fin : decide (a1.size = 0 ∨ (a1.size ≤ a0.size ∧ (a0.extract 0 a1.size).toList = a1.toList ∧ (a0.size = a1.size ∨ bt a0 (a1.size : Int) = 47))) = (bt a0 (a1.size : Int) == 47) := by
            rw [Bool.eq_iff_iff, decide_eq_true_iff, beq_iff_eq]
            exact ⟨fun h => by rcases h with h | ⟨_, _, h | h⟩ <;> first | exact h | omega, fun h => .inr ⟨l1, p, .inr h⟩⟩
          rw [fin]
          clear fin z p q l
          have hx : ((a0[a1.size]'l2).toNat : Int) = bt a0 (a1.size : Int) := by have := bt_at a0 (a1.size : Int) (by omega); simpa using this
          go_enter Try.func9, Try.ntmps9
          go_wp2
          go_ret
          exact ⟨by first | rfl | (rw [hx]; done), Drawn0.refl _⟩
      · have c3 : ((a0.extract 0 a1.size).toList == a1.toList) = false := beq_eq_false_iff_ne.2 p
        have c3' : ((a0.extract 0 a1.size).toList != a1.toList) = true := bne_iff_ne.2 p
        have fin : decide (a1.size = 0 ∨ (a1.size ≤ a0.size ∧ (a0.extract 0 a1.size).toList = a1.toList ∧ (a0.size = a1.size ∨ bt a0 (a1.size : Int) = 47))) = false := by
          rw [decide_eq_false_iff_not]
          exact fun h => by rcases h with h | ⟨_, h, _⟩ <;> first | exact p h | omega
        rw [fin]
        clear fin z p l
        go_enter Try.func9, Try.ntmps9
        go_wp2
        go_ret
        exact ⟨rfl, Drawn0.refl _⟩
end Go.Proofs.Ytabgpdpdgkgmbaa.Q
