/- By a program of this session's: a plain Lean function for a Go function, and its contract. -/
import Derived.Test.YtglhbbijoeeclaaDoorQ0
import Derived.Test.YtglhbbijoeeclaaDoorQ39
namespace Go.Proofs.YtglhbbijoeeclaaDoor.Q
open Go.RowKit Go.Proofs.YtglhbbijoeeclaaDoorW.PrintWords Go.Proofs.YtglhbbijoeeclaaDoorW.PrintLast Go.Proofs.YtglhbbijoeeclaaDoorW.PrintMore
attribute [local go_sem] max2_int min2_int max_two min_two max_three min_three max_four min_four Go.Proofs.YtglhbbijoeeclaaDoor.Ord.str_leq Go.Proofs.YtglhbbijoeeclaaDoor.Ord.str_gtr Go.Proofs.YtglhbbijoeeclaaDoor.Ord.str_geq   -- for this text's walks alone
set_option linter.unusedVariables false
set_option linter.unusedSimpArgs false

/-! ### depotref13_CheckHash: function 64 -/
def depotref13_CheckHash.l0 : Nat → ByteArray → Int → Option (Int)
  | 0, _, _ => none
  | k + 1, x0, x3 => if x3 < 32 then (if 0 ≤ x3 then (if x3 < (x0.size : Int) then ((depotref02_Value.f k (bt x0 x3)).bind fun t150 => (if t150 < 0 then (some 131) else (depotref13_CheckHash.l0 k x0 (wrap64 (x3 + 1))))) else (none)) else (none)) else (some 0)
def depotref13_CheckHash.f (k : Nat) (a0 : ByteArray) : Option (Int) := if (a0.size : Int) = 32 then (depotref13_CheckHash.l0 k a0 0) else (some 131)
theorem depotref13_CheckHash.mono_l : ∀ k, (∀ y0 y1, LeO (depotref13_CheckHash.l0 k y0 y1) (depotref13_CheckHash.l0 (k + 1) y0 y1))
  | 0 => fun _ _ r h => by simp [depotref13_CheckHash.l0] at h
  | k + 1 => by
    have ih0 := depotref13_CheckHash.mono_l k
    · intro y0 y1
      unfold depotref13_CheckHash.l0
      repeat' first
      | (with_reducible exact ih0 _ _)
      | (with_reducible exact depotref02_Value.mono _ _)
      | (with_reducible exact LeO.refl _)
      | (with_reducible exact LeO.none _)
      | (with_reducible refine LeO.ite ?_ ?_)
      | (with_reducible refine LeO.bind ?_ (fun _ => ?_))
      | exact ih0 _ _
      | exact depotref02_Value.mono _ _
      | exact LeO.none _
      | refine LeO.ite ?_ ?_
      | refine LeO.bind ?_ (fun _ => ?_)
theorem depotref13_CheckHash.mono : ∀ a0 k, LeO (depotref13_CheckHash.f k a0) (depotref13_CheckHash.f (k + 1) a0) := by
  intro a0 k
  have ih0 := depotref13_CheckHash.mono_l k
  unfold depotref13_CheckHash.f
  repeat' first
      | (with_reducible exact ih0 _ _)
      | (with_reducible exact depotref02_Value.mono _ _)
      | (with_reducible exact LeO.refl _)
      | (with_reducible exact LeO.none _)
      | (with_reducible refine LeO.ite ?_ ?_)
      | (with_reducible refine LeO.bind ?_ (fun _ => ?_))
      | exact ih0 _ _
      | exact depotref02_Value.mono _ _
      | exact LeO.none _
      | refine LeO.ite ?_ ?_
      | refine LeO.bind ?_ (fun _ => ?_)
set_option maxHeartbeats 8000000 in
set_option maxRecDepth 100000 in
theorem depotref13_CheckHash.calls (k : Nat) (a0 : ByteArray) (r : Int) (w : World) (h : depotref13_CheckHash.f k a0 = some r) :
    Calls Tryd.prog 64 #[.string a0] w fun e w' => e = .returned (.int .i64 r) ∧ Drawn0 w w' := by
  have H : (if (a0.size : Int) = 32 then (depotref13_CheckHash.l0 k a0 0) else (some 131)) = some r := h
  clear h
  by_cases c2 : (a0.size : Int) = 32
  · rw [if_pos c2] at H
    have c2b0 : ((a0.size : Int) == 32) = true := beq_iff_eq.mpr c2
    have c2b1 : ((a0.size : Int) != 32) = false := bne_eq_false_iff_eq.mpr c2
    clear c2
    have H' := Aside0.mk H
    clear H
    go_enter Tryd.func64, Tryd.ntmps64
    go_wp2
    go_loopg [3] k (fun kq v3 w' => ∃ (x3_1 : Int), v3 = .int .i64 x3_1 ∧ Aside0 (depotref13_CheckHash.l0 kq a0 x3_1 = some r) ∧ Aside0 (kq ≤ k) ∧ Drawn0 w w')
    case atStart => exact ⟨(0), (by first | rfl | (simp; done) | (simp [*]; done)), H', ⟨Nat.le_refl _⟩, by repeat (first | exact Drawn0.refl _ | apply Drawn0.step)⟩
    case round =>
      clear H'
      try clear c2
      try clear c2b0
      try clear c2b1
      try clear p2
      obtain ⟨x3_1, rfl, HA, HK1, ⟨m1, rfl⟩⟩ := hrel
      cases gk with
      | zero => exact absurd HA.out (by simp [depotref13_CheckHash.l0])
      | succ k1 =>
        have H := HA.out
        clear HA
        simp only [depotref13_CheckHash.l0] at H
        by_cases c3 : x3_1 < 32
        · rw [if_pos c3] at H
          have c3b0 : decide (x3_1 < 32) = true := decide_eq_true c3
          clear c3
          by_cases c4 : 0 ≤ x3_1
          · rw [if_pos c4] at H
            have c4b0 : decide (0 ≤ x3_1) = true := decide_eq_true c4
            clear c4
            by_cases c5 : x3_1 < (a0.size : Int)
            · rw [if_pos c5] at H
              have c5b0 : decide (x3_1 < (a0.size : Int)) = true := decide_eq_true c5
              clear c5
              replace H := Option.bind_eq_some_iff.mp H
              obtain ⟨t150, A70, H⟩ := H
              replace H : (if t150 < 0 then (some 131) else (depotref13_CheckHash.l0 k1 a0 (wrap64 (x3_1 + 1)))) = some r := H
              have A7 := Aside0.mk A70
              clear A70
              by_cases c8 : t150 < 0
              · rw [if_pos c8] at H
                have c8b0 : decide (t150 < 0) = true := decide_eq_true c8
                clear c8
                obtain rfl := Option.some.inj H
                have p6 : 0 ≤ (x3_1 : Int) := of_decide_eq_true (by first | (with_reducible assumption) | assumption)
                have q6 : x3_1 < (a0.size : Int) := of_decide_eq_true (by first | (with_reducible assumption) | assumption)
                have hx6 := bt_at a0 x3_1
                replace p6 := eq_true p6
                replace q6 := eq_true q6
                go_wp2_with (first | ((with_reducible refine gate_callee (f := 68) rfl ?_); refine goesL_ (some 14) rfl rfl Tryd.func68 (by kernel_rfl) rfl #[.int .u8 (bt a0 x3_1)] rfl (by (try simp only [List.map_toArray, List.map_cons, List.map_nil]); first | done | rfl | (simp only [List.length_drop, List.length_take]; rfl)) ?_; (with_reducible refine (depotref02_Value.calls k1 (bt a0 x3_1) t150 _ A7.out).mono ?_); rintro e w' ⟨rfl, ⟨nd, rfl⟩⟩; refine ⟨_, rfl, ?_⟩))
                go_ret
                exact ⟨by first | rfl | (simp; done) | (simp [*]; done), by repeat (first | exact Drawn0.refl _ | apply Drawn0.step)⟩
              · rw [if_neg c8] at H
                have c8b0 : decide (t150 < 0) = false := decide_eq_false c8
                clear c8
                have H' := Aside0.mk H
                clear H
                have p6 : 0 ≤ (x3_1 : Int) := of_decide_eq_true (by first | (with_reducible assumption) | assumption)
                have q6 : x3_1 < (a0.size : Int) := of_decide_eq_true (by first | (with_reducible assumption) | assumption)
                have hx6 := bt_at a0 x3_1
                replace p6 := eq_true p6
                replace q6 := eq_true q6
                go_wp2_with (first | ((with_reducible refine gate_callee (f := 68) rfl ?_); refine goesL_ (some 14) rfl rfl Tryd.func68 (by kernel_rfl) rfl #[.int .u8 (bt a0 x3_1)] rfl (by (try simp only [List.map_toArray, List.map_cons, List.map_nil]); first | done | rfl | (simp only [List.length_drop, List.length_take]; rfl)) ?_; (with_reducible refine (depotref02_Value.calls k1 (bt a0 x3_1) t150 _ A7.out).mono ?_); rintro e w' ⟨rfl, ⟨nd, rfl⟩⟩; refine ⟨_, rfl, ?_⟩))
                go_roundg k1
                case measure => have := HK1.out; omega
                case rel => exact ⟨(wrap64 (x3_1 + 1)), (by first | rfl | (simp; done) | (simp [*]; done)), H', ⟨by have := HK1.out; omega⟩, by repeat (first | exact Drawn0.refl _ | apply Drawn0.step)⟩
            · rw [if_neg c5] at H
              exact absurd H (by simp)
          · rw [if_neg c4] at H
            exact absurd H (by simp)
        · rw [if_neg c3] at H
          have c3b0 : decide (x3_1 < 32) = false := decide_eq_false c3
          clear c3
          obtain rfl := Option.some.inj H
          go_wp2
          go_ret
          exact ⟨by first | rfl | (simp; done) | (simp [*]; done), by repeat (first | exact Drawn0.refl _ | apply Drawn0.step)⟩
  · rw [if_neg c2] at H
    have c2b0 : ((a0.size : Int) == 32) = false := beq_eq_false_iff_ne.mpr c2
    have c2b1 : ((a0.size : Int) != 32) = true := bne_iff_ne.mpr c2
    obtain rfl := Option.some.inj H
    go_enter Tryd.func64, Tryd.ntmps64
    go_wp2
    go_ret
    exact ⟨by first | rfl | (simp; done) | (simp [*]; done), by repeat (first | exact Drawn0.refl _ | apply Drawn0.step)⟩

end Go.Proofs.YtglhbbijoeeclaaDoor.Q
