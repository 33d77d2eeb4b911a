/- Texts of this claim, put together: Q27, Q28, Q29, Q30, SplitPure, SplitParse, SplitText, SplitMain, RefNum, RefOne. -/
import Derived.Test.YtnilogameaaooaaCWireChunks3
import Derived.Test.YtnilogameaaooaaCWireChunks1
import Derived.Test.YtnilogameaaooaaCWireChunks2
/- By a program of this session's: a plain Lean function for a Go function, and its contract. -/
namespace Go.Proofs.Ytnilogameaaooaa.Q
open Go.RowKit Go.Proofs.YtnilogameaaooaaW.PrintWords Go.Proofs.YtnilogameaaooaaW.PrintLast Go.Proofs.YtnilogameaaooaaW.PrintMore
attribute [local go_sem] max2_int min2_int max_two min_two max_three min_three max_four min_four Go.Proofs.Ytnilogameaaooaa.Ord.str_leq Go.Proofs.Ytnilogameaaooaa.Ord.str_gtr Go.Proofs.Ytnilogameaaooaa.Ord.str_geq   -- for this text's walks alone
set_option linter.unusedVariables false
set_option linter.unusedSimpArgs false

/-! ### depotref03_Planned: function 34 -/
def depotref03_Planned.l0 : Nat → ByteArray → Int → Option (Int)
  | 0, _, _ => none
  | k + 1, x0, x3 => if x3 < (x0.size : Int) then (if 0 ≤ x3 then (if (bt x0 x3) = 105 then (depotref03_Planned.l0 k x0 (wrap64 (x3 + 1))) else (if (bt x0 x3) = 116 then (depotref03_Planned.l0 k x0 (wrap64 (x3 + 1))) else (some x3))) else (none)) else (some (-1))
def depotref03_Planned.f (k : Nat) (a0 : ByteArray) : Option (Int) := depotref03_Planned.l0 k a0 0
theorem depotref03_Planned.mono_l : ∀ k, (∀ y0 y1, LeO (depotref03_Planned.l0 k y0 y1) (depotref03_Planned.l0 (k + 1) y0 y1))
  | 0 => fun _ _ r h => by simp [depotref03_Planned.l0] at h
  | k + 1 => by
    have ih0 := depotref03_Planned.mono_l k
    · intro y0 y1
      unfold depotref03_Planned.l0
      repeat' first
      | (with_reducible exact ih0 _ _)
      | (with_reducible exact LeO.refl _)
      | (with_reducible exact LeO.none _)
      | (with_reducible refine LeO.ite ?_ ?_)
      | (with_reducible refine LeO.bind ?_ (fun _ => ?_))
      | exact ih0 _ _
      | exact LeO.none _
      | refine LeO.ite ?_ ?_
      | refine LeO.bind ?_ (fun _ => ?_)
theorem depotref03_Planned.mono : ∀ a0 k, LeO (depotref03_Planned.f k a0) (depotref03_Planned.f (k + 1) a0) := by
  intro a0 k
  have ih0 := depotref03_Planned.mono_l k
  unfold depotref03_Planned.f
  repeat' first
      | (with_reducible exact ih0 _ _)
      | (with_reducible exact LeO.refl _)
      | (with_reducible exact LeO.none _)
      | (with_reducible refine LeO.ite ?_ ?_)
      | (with_reducible refine LeO.bind ?_ (fun _ => ?_))
      | exact ih0 _ _
      | exact LeO.none _
      | refine LeO.ite ?_ ?_
      | refine LeO.bind ?_ (fun _ => ?_)
set_option maxHeartbeats 8000000 in
set_option maxRecDepth 100000 in
theorem depotref03_Planned.calls (k : Nat) (a0 : ByteArray) (r : Int) (w : World) (h : depotref03_Planned.f k a0 = some r) :
    Calls Try.prog 34 #[.string a0] w fun e w' => e = .returned (.int .i64 r) ∧ Drawn0 w w' := by
  have H : (depotref03_Planned.l0 k a0 0) = some r := h
  clear h
  have H' := Aside0.mk H
  clear H
  go_enter Try.func34, Try.ntmps34
  go_wp2
  go_loopg [3] k (fun kq v3 w' => ∃ (x3_1 : Int), v3 = .int .i64 x3_1 ∧ Aside0 (depotref03_Planned.l0 kq a0 x3_1 = some r) ∧ Aside0 (kq ≤ k) ∧ Drawn0 w w')
  case atStart => exact ⟨(0), (by first | rfl | (simp; done) | (simp [*]; done)), H', ⟨Nat.le_refl _⟩, by repeat (first | exact Drawn0.refl _ | apply Drawn0.step)⟩
  case round =>
    clear H'
    obtain ⟨x3_1, rfl, HA, HK1, ⟨m1, rfl⟩⟩ := hrel
    cases gk with
    | zero => exact absurd HA.out (by simp [depotref03_Planned.l0])
    | succ k1 =>
      have H := HA.out
      clear HA
      simp only [depotref03_Planned.l0] at H
      by_cases c2 : x3_1 < (a0.size : Int)
      · rw [if_pos c2] at H
        have c2b0 : decide (x3_1 < (a0.size : Int)) = true := decide_eq_true c2
        clear c2
        by_cases c3 : 0 ≤ x3_1
        · rw [if_pos c3] at H
          have c3b0 : decide (0 ≤ x3_1) = true := decide_eq_true c3
          clear c3
          by_cases c5 : (bt a0 x3_1) = 105
          · rw [if_pos c5] at H
            have c5b0 : ((bt a0 x3_1) == 105) = true := beq_iff_eq.mpr c5
            have c5b1 : ((bt a0 x3_1) != 105) = false := bne_eq_false_iff_eq.mpr c5
            clear c5
            have H' := Aside0.mk H
            clear H
            have p4 : 0 ≤ (x3_1 : Int) := of_decide_eq_true (by first | (with_reducible assumption) | assumption)
            have q4 : x3_1 < (a0.size : Int) := of_decide_eq_true (by first | (with_reducible assumption) | assumption)
            have hx4 := bt_at a0 x3_1
            replace p4 := eq_true p4
            replace q4 := eq_true q4
            go_wp2
            go_roundg k1
            case measure => have := HK1.out; omega
            case rel => exact ⟨(wrap64 (x3_1 + 1)), (by first | rfl | (simp; done) | (simp [*]; done)), H', ⟨by have := HK1.out; omega⟩, by repeat (first | exact Drawn0.refl _ | apply Drawn0.step)⟩
          · rw [if_neg c5] at H
            have c5b0 : ((bt a0 x3_1) == 105) = false := beq_eq_false_iff_ne.mpr c5
            have c5b1 : ((bt a0 x3_1) != 105) = true := bne_iff_ne.mpr c5
            by_cases c7 : (bt a0 x3_1) = 116
            · rw [if_pos c7] at H
              have c7b0 : ((bt a0 x3_1) == 116) = true := beq_iff_eq.mpr c7
              have c7b1 : ((bt a0 x3_1) != 116) = false := bne_eq_false_iff_eq.mpr c7
              clear c7
              have H' := Aside0.mk H
              clear H
              have p4 : 0 ≤ (x3_1 : Int) := of_decide_eq_true (by first | (with_reducible assumption) | assumption)
              have q4 : x3_1 < (a0.size : Int) := of_decide_eq_true (by first | (with_reducible assumption) | assumption)
              have hx4 := bt_at a0 x3_1
              replace p4 := eq_true p4
              replace q4 := eq_true q4
              have p6 : 0 ≤ (x3_1 : Int) := of_decide_eq_true (by first | (with_reducible assumption) | assumption)
              have q6 : x3_1 < (a0.size : Int) := of_decide_eq_true (by first | (with_reducible assumption) | assumption)
              have hx6 := bt_at a0 x3_1
              replace p6 := eq_true p6
              replace q6 := eq_true q6
              go_wp2
              go_roundg k1
              case measure => have := HK1.out; omega
              case rel => exact ⟨(wrap64 (x3_1 + 1)), (by first | rfl | (simp; done) | (simp [*]; done)), H', ⟨by have := HK1.out; omega⟩, by repeat (first | exact Drawn0.refl _ | apply Drawn0.step)⟩
            · rw [if_neg c7] at H
              have c7b0 : ((bt a0 x3_1) == 116) = false := beq_eq_false_iff_ne.mpr c7
              have c7b1 : ((bt a0 x3_1) != 116) = true := bne_iff_ne.mpr c7
              obtain rfl := Option.some.inj H
              have p4 : 0 ≤ (x3_1 : Int) := of_decide_eq_true (by first | (with_reducible assumption) | assumption)
              have q4 : x3_1 < (a0.size : Int) := of_decide_eq_true (by first | (with_reducible assumption) | assumption)
              have hx4 := bt_at a0 x3_1
              replace p4 := eq_true p4
              replace q4 := eq_true q4
              have p6 : 0 ≤ (x3_1 : Int) := of_decide_eq_true (by first | (with_reducible assumption) | assumption)
              have q6 : x3_1 < (a0.size : Int) := of_decide_eq_true (by first | (with_reducible assumption) | assumption)
              have hx6 := bt_at a0 x3_1
              replace p6 := eq_true p6
              replace q6 := eq_true q6
              go_wp2
              go_ret
              exact ⟨by first | rfl | (simp; done) | (simp [*]; done), by repeat (first | exact Drawn0.refl _ | apply Drawn0.step)⟩
        · rw [if_neg c3] at H
          exact absurd H (by simp)
      · rw [if_neg c2] at H
        have c2b0 : decide (x3_1 < (a0.size : Int)) = false := decide_eq_false c2
        clear c2
        obtain rfl := Option.some.inj H
        go_wp2
        go_ret
        exact ⟨by first | rfl | (simp; done) | (simp [*]; done), by repeat (first | exact Drawn0.refl _ | apply Drawn0.step)⟩

end Go.Proofs.Ytnilogameaaooaa.Q
/- By a program of this session's: a plain Lean function for a Go function, and its contract. -/
namespace Go.Proofs.Ytnilogameaaooaa.Q
open Go.RowKit Go.Proofs.YtnilogameaaooaaW.PrintWords Go.Proofs.YtnilogameaaooaaW.PrintLast Go.Proofs.YtnilogameaaooaaW.PrintMore
attribute [local go_sem] max2_int min2_int max_two min_two max_three min_three max_four min_four Go.Proofs.Ytnilogameaaooaa.Ord.str_leq Go.Proofs.Ytnilogameaaooaa.Ord.str_gtr Go.Proofs.Ytnilogameaaooaa.Ord.str_geq   -- for this text's walks alone
set_option linter.unusedVariables false
set_option linter.unusedSimpArgs false

/-! ### depotref03_Num: function 35 -/
def depotref03_Num.l0 : Nat → ByteArray → Int → Int → Int → Option (Int)
  | 0, _, _, _, _ => none
  | k + 1, x0, x1, x5, x6 => if x6 ≥ 0 then (if 0 ≤ (wrap64 (x1 + x6)) then (if (wrap64 (x1 + x6)) < (x0.size : Int) then (depotref03_Num.l0 k x0 x1 (IntKind.u64.wrap ((IntKind.u64.wrap (x5 * 256)) + (IntKind.u64.wrap (bt x0 (wrap64 (x1 + x6)))))) (wrap64 (x6 - 1))) else (none)) else (none)) else (some x5)
def depotref03_Num.f (k : Nat) (a0 : ByteArray) (a1 : Int) : Option (Int) := depotref03_Num.l0 k a0 a1 0 7
theorem depotref03_Num.mono_l : ∀ k, (∀ y0 y1 y2 y3, LeO (depotref03_Num.l0 k y0 y1 y2 y3) (depotref03_Num.l0 (k + 1) y0 y1 y2 y3))
  | 0 => fun _ _ _ _ r h => by simp [depotref03_Num.l0] at h
  | k + 1 => by
    have ih0 := depotref03_Num.mono_l k
    · intro y0 y1 y2 y3
      unfold depotref03_Num.l0
      repeat' first
      | (with_reducible exact ih0 _ _ _ _)
      | (with_reducible exact LeO.refl _)
      | (with_reducible exact LeO.none _)
      | (with_reducible refine LeO.ite ?_ ?_)
      | (with_reducible refine LeO.bind ?_ (fun _ => ?_))
      | exact ih0 _ _ _ _
      | exact LeO.none _
      | refine LeO.ite ?_ ?_
      | refine LeO.bind ?_ (fun _ => ?_)
theorem depotref03_Num.mono : ∀ a0 a1 k, LeO (depotref03_Num.f k a0 a1) (depotref03_Num.f (k + 1) a0 a1) := by
  intro a0 a1 k
  have ih0 := depotref03_Num.mono_l k
  unfold depotref03_Num.f
  repeat' first
      | (with_reducible exact ih0 _ _ _ _)
      | (with_reducible exact LeO.refl _)
      | (with_reducible exact LeO.none _)
      | (with_reducible refine LeO.ite ?_ ?_)
      | (with_reducible refine LeO.bind ?_ (fun _ => ?_))
      | exact ih0 _ _ _ _
      | exact LeO.none _
      | refine LeO.ite ?_ ?_
      | refine LeO.bind ?_ (fun _ => ?_)
set_option maxHeartbeats 8000000 in
set_option maxRecDepth 100000 in
theorem depotref03_Num.calls (k : Nat) (a0 : ByteArray) (a1 : Int) (r : Int) (w : World) (h : depotref03_Num.f k a0 a1 = some r) :
    Calls Try.prog 35 #[.string a0, .int .i64 a1] w fun e w' => e = .returned (.int .u64 r) ∧ Drawn0 w w' := by
  have H : (depotref03_Num.l0 k a0 a1 0 7) = some r := h
  clear h
  have H' := Aside0.mk H
  clear H
  go_enter Try.func35, Try.ntmps35
  go_wp2
  go_loopg [5, 6] k (fun kq v5 v6 w' => ∃ (x5_1 : Int) (x6_1 : Int), v5 = .int .u64 x5_1 ∧ v6 = .int .i64 x6_1 ∧ Aside0 (depotref03_Num.l0 kq a0 a1 x5_1 x6_1 = some r) ∧ Aside0 (kq ≤ k) ∧ Drawn0 w w')
  case atStart => exact ⟨(0), (7), (by first | rfl | (simp; done) | (simp [*]; done)), (by first | rfl | (simp; done) | (simp [*]; done)), H', ⟨Nat.le_refl _⟩, by repeat (first | exact Drawn0.refl _ | apply Drawn0.step)⟩
  case round =>
    clear H'
    try clear p2
    obtain ⟨x5_1, x6_1, rfl, rfl, HA, HK1, ⟨m1, rfl⟩⟩ := hrel
    cases gk with
    | zero => exact absurd HA.out (by simp [depotref03_Num.l0])
    | succ k1 =>
      have H := HA.out
      clear HA
      simp only [depotref03_Num.l0] at H
      by_cases c3 : x6_1 ≥ 0
      · rw [if_pos c3] at H
        have c3b0 : decide (0 ≤ x6_1) = true := decide_eq_true c3
        clear c3
        obtain ⟨ji4, hji4⟩ : ∃ j_ : Int, (wrap64 (a1 + x6_1)) = j_ := ⟨_, rfl⟩
        replace H : (if 0 ≤ (ji4) then (if (ji4) < (a0.size : Int) then (depotref03_Num.l0 k1 a0 a1 (IntKind.u64.wrap ((IntKind.u64.wrap (x5_1 * 256)) + (IntKind.u64.wrap (bt a0 (ji4))))) (wrap64 (x6_1 - 1))) else (none)) else (none)) = some r := by first | (rw [hji4] at H; exact H) | (simp only [hji4] at H ⊢; exact H)
        have hji4w : (IntKind.i64.wrap (a1 + x6_1)) = ji4 := (i64_w _).trans hji4
        by_cases c5 : 0 ≤ (ji4)
        · rw [if_pos c5] at H
          have c5b0 : decide (0 ≤ (ji4)) = true := decide_eq_true c5
          clear c5
          by_cases c6 : (ji4) < (a0.size : Int)
          · rw [if_pos c6] at H
            have c6b0 : decide ((ji4) < (a0.size : Int)) = true := decide_eq_true c6
            clear c6
            have H' := Aside0.mk H
            clear H
            have p7 : 0 ≤ ((ji4) : Int) := of_decide_eq_true (by first | (with_reducible assumption) | assumption)
            have q7 : (ji4) < (a0.size : Int) := of_decide_eq_true (by first | (with_reducible assumption) | assumption)
            have hx7 := bt_at a0 (ji4)
            replace p7 := eq_true p7
            replace q7 := eq_true q7
            go_wp2
            go_roundg k1
            case measure => have := HK1.out; omega
            case rel => exact ⟨(IntKind.u64.wrap ((IntKind.u64.wrap (x5_1 * 256)) + (IntKind.u64.wrap (bt a0 (ji4))))), (wrap64 (x6_1 - 1)), (by first | rfl | (simp; done) | (simp only [← hji4] <;> (first | rfl | simp)) | (simp [*]; done)), (by first | rfl | (simp; done) | (simp [*]; done)), H', ⟨by have := HK1.out; omega⟩, by repeat (first | exact Drawn0.refl _ | apply Drawn0.step)⟩
          · rw [if_neg c6] at H
            exact absurd H (by simp)
        · rw [if_neg c5] at H
          exact absurd H (by simp)
      · rw [if_neg c3] at H
        have c3b0 : decide (0 ≤ x6_1) = false := decide_eq_false c3
        clear c3
        obtain rfl := Option.some.inj H
        go_wp2
        go_ret
        exact ⟨by first | rfl | (simp; done) | (simp [*]; done), by repeat (first | exact Drawn0.refl _ | apply Drawn0.step)⟩

end Go.Proofs.Ytnilogameaaooaa.Q
/- By a program of this session's: a plain Lean function for a Go function, and its contract. -/
namespace Go.Proofs.Ytnilogameaaooaa.Q
open Go.RowKit Go.Proofs.YtnilogameaaooaaW.PrintWords Go.Proofs.YtnilogameaaooaaW.PrintLast Go.Proofs.YtnilogameaaooaaW.PrintMore
attribute [local go_sem] max2_int min2_int max_two min_two max_three min_three max_four min_four Go.Proofs.Ytnilogameaaooaa.Ord.str_leq Go.Proofs.Ytnilogameaaooaa.Ord.str_gtr Go.Proofs.Ytnilogameaaooaa.Ord.str_geq   -- for this text's walks alone
set_option linter.unusedVariables false
set_option linter.unusedSimpArgs false

/-! ### depotref03_OneText: function 36 -/
def depotref03_OneText.l0 : Nat → ByteArray → Int → Int → Int → Int → Option (ByteArray × Int × Int × Int × Int)
  | 0, _, _, _, _, _ => none
  | k + 1, x0, x1, x12, x13, x14 => if x14 < (wrap64 (x12 + (Int.tmod (wrap64 (8 - (Int.tmod x12 8))) 8))) then (if x14 < x13 then (if 0 ≤ (wrap64 ((wrap64 (x1 + 8)) + x14)) then (if (wrap64 ((wrap64 (x1 + 8)) + x14)) < (x0.size : Int) then (if (bt x0 (wrap64 ((wrap64 (x1 + 8)) + x14))) = 0 then (depotref03_OneText.l0 k x0 x1 x12 x13 (wrap64 (x14 + 1))) else (some ((⟨#[]⟩ : ByteArray), (-1), 7, wrap64 ((wrap64 (x1 + 8)) + x14), wrap64 ((wrap64 (x1 + 8)) + x14)))) else (none)) else (none)) else (depotref03_OneText.l0 k x0 x1 x12 x13 (wrap64 (x14 + 1)))) else (if x13 < x12 then (some ((⟨#[]⟩ : ByteArray), (-1), 0, 0, (x0.size : Int))) else (if (wrap64 (x13 - x12)) < (Int.tmod (wrap64 (8 - (Int.tmod x12 8))) 8) then (some ((⟨#[]⟩ : ByteArray), (-1), 0, 0, (x0.size : Int))) else (if 0 ≤ (wrap64 (x1 + 8)) then (if (wrap64 (x1 + 8)) ≤ (wrap64 ((wrap64 (x1 + 8)) + x12)) then (if (wrap64 ((wrap64 (x1 + 8)) + x12)) ≤ (x0.size : Int) then (some (x0.extract ((wrap64 (x1 + 8)) : Int).toNat ((wrap64 ((wrap64 (x1 + 8)) + x12)) : Int).toNat, wrap64 ((wrap64 ((wrap64 (x1 + 8)) + x12)) + (Int.tmod (wrap64 (8 - (Int.tmod x12 8))) 8)), 0, 0, 0)) else (none)) else (none)) else (none))))
def depotref03_OneText.f (k : Nat) (a0 : ByteArray) (a1 : Int) (a2 : Int) : Option (ByteArray × Int × Int × Int × Int) := if a1 > (wrap64 ((a0.size : Int) - 8)) then (some ((⟨#[]⟩ : ByteArray), (-1), 0, 0, (a0.size : Int))) else ((depotref03_Num.f k a0 a1).bind fun t135 => (if t135 > (IntKind.u64.wrap (a2)) then (some ((⟨#[]⟩ : ByteArray), (-1), 6, a1, wrap64 (a1 + 7))) else (depotref03_OneText.l0 k a0 a1 (wrap64 (t135)) (wrap64 ((wrap64 ((a0.size : Int) - a1)) - 8)) (wrap64 (t135)))))
theorem depotref03_OneText.mono_l : ∀ k, (∀ y0 y1 y2 y3 y4, LeO (depotref03_OneText.l0 k y0 y1 y2 y3 y4) (depotref03_OneText.l0 (k + 1) y0 y1 y2 y3 y4))
  | 0 => fun _ _ _ _ _ r h => by simp [depotref03_OneText.l0] at h
  | k + 1 => by
    have ih0 := depotref03_OneText.mono_l k
    · intro y0 y1 y2 y3 y4
      unfold depotref03_OneText.l0
      repeat' first
      | (with_reducible exact ih0 _ _ _ _ _)
      | (with_reducible exact depotref03_Num.mono _ _ _)
      | (with_reducible exact LeO.refl _)
      | (with_reducible exact LeO.none _)
      | (with_reducible refine LeO.ite ?_ ?_)
      | (with_reducible refine LeO.bind ?_ (fun _ => ?_))
      | exact ih0 _ _ _ _ _
      | exact depotref03_Num.mono _ _ _
      | exact LeO.none _
      | refine LeO.ite ?_ ?_
      | refine LeO.bind ?_ (fun _ => ?_)
theorem depotref03_OneText.mono : ∀ a0 a1 a2 k, LeO (depotref03_OneText.f k a0 a1 a2) (depotref03_OneText.f (k + 1) a0 a1 a2) := by
  intro a0 a1 a2 k
  have ih0 := depotref03_OneText.mono_l k
  unfold depotref03_OneText.f
  repeat' first
      | (with_reducible exact ih0 _ _ _ _ _)
      | (with_reducible exact depotref03_Num.mono _ _ _)
      | (with_reducible exact LeO.refl _)
      | (with_reducible exact LeO.none _)
      | (with_reducible refine LeO.ite ?_ ?_)
      | (with_reducible refine LeO.bind ?_ (fun _ => ?_))
      | exact ih0 _ _ _ _ _
      | exact depotref03_Num.mono _ _ _
      | exact LeO.none _
      | refine LeO.ite ?_ ?_
      | refine LeO.bind ?_ (fun _ => ?_)
set_option maxHeartbeats 8000000 in
set_option maxRecDepth 100000 in
theorem depotref03_OneText.calls (k : Nat) (a0 : ByteArray) (a1 : Int) (a2 : Int) (r1 : ByteArray) (r2 : Int) (r3 : Int) (r4 : Int) (r5 : Int) (w : World) (h : depotref03_OneText.f k a0 a1 a2 = some (r1, r2, r3, r4, r5)) :
    Calls Try.prog 36 #[.string a0, .int .i64 a1, .int .i64 a2] w fun e w' => e = .returned (.tuple #[.string r1, .int .i64 r2, .int .i64 r3, .int .i64 r4, .int .i64 r5]) ∧ Drawn0 w w' := by
  have H : (if a1 > (wrap64 ((a0.size : Int) - 8)) then (some ((⟨#[]⟩ : ByteArray), (-1), 0, 0, (a0.size : Int))) else ((depotref03_Num.f k a0 a1).bind fun t135 => (if t135 > (IntKind.u64.wrap (a2)) then (some ((⟨#[]⟩ : ByteArray), (-1), 6, a1, wrap64 (a1 + 7))) else (depotref03_OneText.l0 k a0 a1 (wrap64 (t135)) (wrap64 ((wrap64 ((a0.size : Int) - a1)) - 8)) (wrap64 (t135)))))) = some (r1, r2, r3, r4, r5) := h
  clear h
  by_cases c4 : a1 > (wrap64 ((a0.size : Int) - 8))
  · rw [if_pos c4] at H
    have c4b0 : decide ((wrap64 ((a0.size : Int) - 8)) < a1) = true := decide_eq_true c4
    clear c4
    simp only [Option.some.injEq, Prod.mk.injEq] at H
    obtain ⟨rfl, rfl, rfl, rfl, rfl⟩ := H
    go_enter Try.func36, Try.ntmps36
    go_wp2
    refine bodyPost_ret (results_list (rs := [.tmp 6, .tmp 7, .tmp 8, .tmp 9, .tmp 10]) rfl (by simp) (.tmp (.tmp (.tmp (.tmp (.tmp .nil)))))) rfl ?_
    exact ⟨by first | rfl | (simp; done) | (simp [*]; done), by repeat (first | exact Drawn0.refl _ | apply Drawn0.step)⟩
  · rw [if_neg c4] at H
    have c4b0 : decide ((wrap64 ((a0.size : Int) - 8)) < a1) = false := decide_eq_false c4
    clear c4
    replace H := Option.bind_eq_some_iff.mp H
    obtain ⟨t135, A50, H⟩ := H
    replace H : (if t135 > (IntKind.u64.wrap (a2)) then (some ((⟨#[]⟩ : ByteArray), (-1), 6, a1, wrap64 (a1 + 7))) else (depotref03_OneText.l0 k a0 a1 (wrap64 (t135)) (wrap64 ((wrap64 ((a0.size : Int) - a1)) - 8)) (wrap64 (t135)))) = some (r1, r2, r3, r4, r5) := H
    have A5 := Aside0.mk A50
    clear A50
    by_cases c6 : t135 > (IntKind.u64.wrap (a2))
    · rw [if_pos c6] at H
      have c6b0 : decide ((IntKind.u64.wrap (a2)) < t135) = true := decide_eq_true c6
      clear c6
      simp only [Option.some.injEq, Prod.mk.injEq] at H
      obtain ⟨rfl, rfl, rfl, rfl, rfl⟩ := H
      go_enter Try.func36, Try.ntmps36
      go_wp2_with (first | ((with_reducible refine gate_callee (f := 35) rfl ?_); refine goesL_ (some 24) rfl rfl Try.func35 (by kernel_rfl) rfl #[.string a0, .int .i64 a1] rfl (by (try simp only [List.map_toArray, List.map_cons, List.map_nil]); first | done | rfl | (simp only [List.length_drop, List.length_take]; rfl)) ?_; (with_reducible refine (depotref03_Num.calls k a0 a1 t135 _ A5.out).mono ?_); rintro e w' ⟨rfl, ⟨nd, rfl⟩⟩; refine ⟨_, rfl, ?_⟩))
      refine bodyPost_ret (results_list (rs := [.tmp 6, .tmp 7, .tmp 8, .tmp 9, .tmp 10]) rfl (by simp) (.tmp (.tmp (.tmp (.tmp (.tmp .nil)))))) rfl ?_
      exact ⟨by first | rfl | (simp; done) | (simp [*]; done), by repeat (first | exact Drawn0.refl _ | apply Drawn0.step)⟩
    · rw [if_neg c6] at H
      have c6b0 : decide ((IntKind.u64.wrap (a2)) < t135) = false := decide_eq_false c6
      clear c6
      have H' := Aside0.mk H
      clear H
      go_enter Try.func36, Try.ntmps36
      go_wp2_with (first | ((with_reducible refine gate_callee (f := 35) rfl ?_); refine goesL_ (some 24) rfl rfl Try.func35 (by kernel_rfl) rfl #[.string a0, .int .i64 a1] rfl (by (try simp only [List.map_toArray, List.map_cons, List.map_nil]); first | done | rfl | (simp only [List.length_drop, List.length_take]; rfl)) ?_; (with_reducible refine (depotref03_Num.calls k a0 a1 t135 _ A5.out).mono ?_); rintro e w' ⟨rfl, ⟨nd, rfl⟩⟩; refine ⟨_, rfl, ?_⟩))
      go_loopg [14] k (fun kq v14 w' => ∃ (x14_1 : Int), v14 = .int .i64 x14_1 ∧ Aside0 (depotref03_OneText.l0 kq a0 a1 (wrap64 (t135)) (wrap64 ((wrap64 ((a0.size : Int) - a1)) - 8)) x14_1 = some (r1, r2, r3, r4, r5)) ∧ Aside0 (kq ≤ k) ∧ Drawn0 w w')
      case atStart => exact ⟨(wrap64 (t135)), (by first | rfl | (simp; done) | (simp [*]; done)), H', ⟨Nat.le_refl _⟩, by repeat (first | exact Drawn0.refl _ | apply Drawn0.step)⟩
      case round =>
        clear H'
        try clear p2
        try clear c3
        try clear c4
        try clear c4b0
        try clear c6
        try clear c6b0
        try clear p6
        obtain ⟨x14_1, rfl, HA, HK1, ⟨m1, rfl⟩⟩ := hrel
        cases gk with
        | zero => exact absurd HA.out (by simp [depotref03_OneText.l0])
        | succ k1 =>
          have H := HA.out
          clear HA
          simp only [depotref03_OneText.l0] at H
          by_cases c7 : x14_1 < (wrap64 ((wrap64 (t135)) + (Int.tmod (wrap64 (8 - (Int.tmod (wrap64 (t135)) 8))) 8)))
          · rw [if_pos c7] at H
            have c7b0 : decide (x14_1 < (wrap64 ((wrap64 (t135)) + (Int.tmod (wrap64 (8 - (Int.tmod (wrap64 (t135)) 8))) 8)))) = true := decide_eq_true c7
            clear c7
            by_cases c8 : x14_1 < (wrap64 ((wrap64 ((a0.size : Int) - a1)) - 8))
            · rw [if_pos c8] at H
              have c8b0 : decide (x14_1 < (wrap64 ((wrap64 ((a0.size : Int) - a1)) - 8))) = true := decide_eq_true c8
              clear c8
              obtain ⟨ji9, hji9⟩ : ∃ j_ : Int, (wrap64 ((wrap64 (a1 + 8)) + x14_1)) = j_ := ⟨_, rfl⟩
              replace H : (if 0 ≤ (ji9) then (if (ji9) < (a0.size : Int) then (if (bt a0 (ji9)) = 0 then (depotref03_OneText.l0 k1 a0 a1 (wrap64 (t135)) (wrap64 ((wrap64 ((a0.size : Int) - a1)) - 8)) (wrap64 (x14_1 + 1))) else (some ((⟨#[]⟩ : ByteArray), (-1), 7, ji9, ji9))) else (none)) else (none)) = some (r1, r2, r3, r4, r5) := by first | (rw [hji9] at H; exact H) | (simp only [hji9] at H ⊢; exact H)
              have hji9w : (IntKind.i64.wrap ((wrap64 (a1 + 8)) + x14_1)) = ji9 := (i64_w _).trans hji9
              by_cases c10 : 0 ≤ (ji9)
              · rw [if_pos c10] at H
                have c10b0 : decide (0 ≤ (ji9)) = true := decide_eq_true c10
                clear c10
                by_cases c11 : (ji9) < (a0.size : Int)
                · rw [if_pos c11] at H
                  have c11b0 : decide ((ji9) < (a0.size : Int)) = true := decide_eq_true c11
                  clear c11
                  by_cases c13 : (bt a0 (ji9)) = 0
                  · rw [if_pos c13] at H
                    have c13b0 : ((bt a0 (ji9)) == 0) = true := beq_iff_eq.mpr c13
                    have c13b1 : ((bt a0 (ji9)) != 0) = false := bne_eq_false_iff_eq.mpr c13
                    clear c13
                    have H' := Aside0.mk H
                    clear H
                    have p12 : 0 ≤ ((ji9) : Int) := of_decide_eq_true (by first | (with_reducible assumption) | assumption)
                    have q12 : (ji9) < (a0.size : Int) := of_decide_eq_true (by first | (with_reducible assumption) | assumption)
                    have hx12 := bt_at a0 (ji9)
                    replace p12 := eq_true p12
                    replace q12 := eq_true q12
                    go_wp2
                    go_roundg k1
                    case measure => have := HK1.out; omega
                    case rel => exact ⟨(wrap64 (x14_1 + 1)), (by first | rfl | (simp; done) | (simp [*]; done)), H', ⟨by have := HK1.out; omega⟩, by repeat (first | exact Drawn0.refl _ | apply Drawn0.step)⟩
                  · rw [if_neg c13] at H
                    have c13b0 : ((bt a0 (ji9)) == 0) = false := beq_eq_false_iff_ne.mpr c13
                    have c13b1 : ((bt a0 (ji9)) != 0) = true := bne_iff_ne.mpr c13
                    simp only [Option.some.injEq, Prod.mk.injEq] at H
                    obtain ⟨rfl, rfl, rfl, rfl, rfl⟩ := H
                    have p12 : 0 ≤ ((ji9) : Int) := of_decide_eq_true (by first | (with_reducible assumption) | assumption)
                    have q12 : (ji9) < (a0.size : Int) := of_decide_eq_true (by first | (with_reducible assumption) | assumption)
                    have hx12 := bt_at a0 (ji9)
                    replace p12 := eq_true p12
                    replace q12 := eq_true q12
                    go_wp2
                    refine bodyPost_ret (results_list (rs := [.tmp 6, .tmp 7, .tmp 8, .tmp 9, .tmp 10]) rfl (by simp) (.tmp (.tmp (.tmp (.tmp (.tmp .nil)))))) rfl ?_
                    exact ⟨by first | rfl | (simp; done) | (simp only [← hji9] <;> (first | rfl | simp)) | (simp [*]; done), by repeat (first | exact Drawn0.refl _ | apply Drawn0.step)⟩
                · rw [if_neg c11] at H
                  exact absurd H (by simp)
              · rw [if_neg c10] at H
                exact absurd H (by simp)
            · rw [if_neg c8] at H
              have c8b0 : decide (x14_1 < (wrap64 ((wrap64 ((a0.size : Int) - a1)) - 8))) = false := decide_eq_false c8
              clear c8
              have H' := Aside0.mk H
              clear H
              go_wp2
              go_roundg k1
              case measure => have := HK1.out; omega
              case rel => exact ⟨(wrap64 (x14_1 + 1)), (by first | rfl | (simp; done) | (simp [*]; done)), H', ⟨by have := HK1.out; omega⟩, by repeat (first | exact Drawn0.refl _ | apply Drawn0.step)⟩
          · rw [if_neg c7] at H
            have c7b0 : decide (x14_1 < (wrap64 ((wrap64 (t135)) + (Int.tmod (wrap64 (8 - (Int.tmod (wrap64 (t135)) 8))) 8)))) = false := decide_eq_false c7
            clear c7
            by_cases c14 : (wrap64 ((wrap64 ((a0.size : Int) - a1)) - 8)) < (wrap64 (t135))
            · rw [if_pos c14] at H
              have c14b0 : decide ((wrap64 ((wrap64 ((a0.size : Int) - a1)) - 8)) < (wrap64 (t135))) = true := decide_eq_true c14
              clear c14
              simp only [Option.some.injEq, Prod.mk.injEq] at H
              obtain ⟨rfl, rfl, rfl, rfl, rfl⟩ := H
              go_wp2
              refine bodyPost_ret (results_list (rs := [.tmp 6, .tmp 7, .tmp 8, .tmp 9, .tmp 10]) rfl (by simp) (.tmp (.tmp (.tmp (.tmp (.tmp .nil)))))) rfl ?_
              exact ⟨by first | rfl | (simp; done) | (simp [*]; done), by repeat (first | exact Drawn0.refl _ | apply Drawn0.step)⟩
            · rw [if_neg c14] at H
              have c14b0 : decide ((wrap64 ((wrap64 ((a0.size : Int) - a1)) - 8)) < (wrap64 (t135))) = false := decide_eq_false c14
              clear c14
              by_cases c15 : (wrap64 ((wrap64 ((wrap64 ((a0.size : Int) - a1)) - 8)) - (wrap64 (t135)))) < (Int.tmod (wrap64 (8 - (Int.tmod (wrap64 (t135)) 8))) 8)
              · rw [if_pos c15] at H
                have c15b0 : decide ((wrap64 ((wrap64 ((wrap64 ((a0.size : Int) - a1)) - 8)) - (wrap64 (t135)))) < (Int.tmod (wrap64 (8 - (Int.tmod (wrap64 (t135)) 8))) 8)) = true := decide_eq_true c15
                clear c15
                simp only [Option.some.injEq, Prod.mk.injEq] at H
                obtain ⟨rfl, rfl, rfl, rfl, rfl⟩ := H
                go_wp2
                refine bodyPost_ret (results_list (rs := [.tmp 6, .tmp 7, .tmp 8, .tmp 9, .tmp 10]) rfl (by simp) (.tmp (.tmp (.tmp (.tmp (.tmp .nil)))))) rfl ?_
                exact ⟨by first | rfl | (simp; done) | (simp [*]; done), by repeat (first | exact Drawn0.refl _ | apply Drawn0.step)⟩
              · rw [if_neg c15] at H
                have c15b0 : decide ((wrap64 ((wrap64 ((wrap64 ((a0.size : Int) - a1)) - 8)) - (wrap64 (t135)))) < (Int.tmod (wrap64 (8 - (Int.tmod (wrap64 (t135)) 8))) 8)) = false := decide_eq_false c15
                clear c15
                obtain ⟨ji16, hji16⟩ : ∃ j_ : Int, (wrap64 (a1 + 8)) = j_ := ⟨_, rfl⟩
                replace H : (if 0 ≤ (ji16) then (if (ji16) ≤ (wrap64 ((ji16) + (wrap64 (t135)))) then (if (wrap64 ((ji16) + (wrap64 (t135)))) ≤ (a0.size : Int) then (some (a0.extract ((ji16) : Int).toNat ((wrap64 ((ji16) + (wrap64 (t135)))) : Int).toNat, wrap64 ((wrap64 ((ji16) + (wrap64 (t135)))) + (Int.tmod (wrap64 (8 - (Int.tmod (wrap64 (t135)) 8))) 8)), 0, 0, 0)) else (none)) else (none)) else (none)) = some (r1, r2, r3, r4, r5) := by first | (rw [hji16] at H; exact H) | (simp only [hji16] at H ⊢; exact H)
                have hji16w : (IntKind.i64.wrap (a1 + 8)) = ji16 := (i64_w _).trans hji16
                by_cases c17 : 0 ≤ (ji16)
                · rw [if_pos c17] at H
                  have c17b0 := eq_true c17
                  have c17b1 : decide (0 ≤ (ji16)) = true := decide_eq_true c17
                  clear c17
                  by_cases c18 : (ji16) ≤ (wrap64 ((ji16) + (wrap64 (t135))))
                  · rw [if_pos c18] at H
                    have c18b0 := eq_true c18
                    have c18b1 : decide ((ji16) ≤ (wrap64 ((ji16) + (wrap64 (t135))))) = true := decide_eq_true c18
                    by_cases c19 : (wrap64 ((ji16) + (wrap64 (t135)))) ≤ (a0.size : Int)
                    · rw [if_pos c19] at H
                      have c19b0 := eq_true c19
                      have c19b1 : decide ((wrap64 ((ji16) + (wrap64 (t135)))) ≤ (a0.size : Int)) = true := decide_eq_true c19
                      simp only [Option.some.injEq, Prod.mk.injEq] at H
                      obtain ⟨rfl, rfl, rfl, rfl, rfl⟩ := H
                      go_wp2
                      refine bodyPost_ret (results_list (rs := [.tmp 6, .tmp 7, .tmp 8, .tmp 9, .tmp 10]) rfl (by simp) (.tmp (.tmp (.tmp (.tmp (.tmp .nil)))))) rfl ?_
                      exact ⟨by first | rfl | (simp; done) | (simp only [← hji16] <;> (first | rfl | simp)) | (simp [*]; done), by repeat (first | exact Drawn0.refl _ | apply Drawn0.step)⟩
                    · rw [if_neg c19] at H
                      exact absurd H (by simp)
                  · rw [if_neg c18] at H
                    exact absurd H (by simp)
                · rw [if_neg c17] at H
                  exact absurd H (by simp)

end Go.Proofs.Ytnilogameaaooaa.Q
/- By a program of this session's: a plain Lean function for a Go function, and its contract. -/
namespace Go.Proofs.Ytnilogameaaooaa.Q
open Go.RowKit Go.Proofs.YtnilogameaaooaaW.PrintWords Go.Proofs.YtnilogameaaooaaW.PrintLast Go.Proofs.YtnilogameaaooaaW.PrintMore
attribute [local go_sem] max2_int min2_int max_two min_two max_three min_three max_four min_four Go.Proofs.Ytnilogameaaooaa.Ord.str_leq Go.Proofs.Ytnilogameaaooaa.Ord.str_gtr Go.Proofs.Ytnilogameaaooaa.Ord.str_geq   -- for this text's walks alone
set_option linter.unusedVariables false
set_option linter.unusedSimpArgs false

/-! ### depotref03_Read: function 20 -/
mutual
def depotref03_Read.j0 : Nat → ByteArray → ByteArray → Int → Option ((List (S78)) × Int × Int × Int)
  | 0, _, _, _ => none
  | k + 1, x0, x1, x2 => (depotref03_Planned.f k x1).bind fun t137 => (if t137 ≥ 0 then (some (([] : List (S78)), 30, t137, 0)) else (depotref03_Read.l0 k x0 x1 x2 0 0 ([] : List (S78)) 0 0 0))
def depotref03_Read.l0 : Nat → ByteArray → ByteArray → Int → Int → Int → List (S78) → Int → Int → Int → Option ((List (S78)) × Int × Int × Int)
  | 0, _, _, _, _, _, _, _, _, _ => none
  | k + 1, x0, x1, x2, x9, x10, x139000, x139001, x139002, x139003 => if x10 < (x1.size : Int) then (if 0 ≤ x10 then (if (bt x1 x10) = 105 then (if x9 > (wrap64 ((x0.size : Int) - 8)) then (some (x139000, x139001, x139002, (x0.size : Int))) else ((depotref03_Num.f k x0 x9).bind fun t139 => (if x139000.length < 4398046511104 then (depotref03_Read.l0 k x0 x1 x2 (wrap64 (x9 + 8)) (wrap64 (x10 + 1)) (x139000 ++ [(⟨true, t139, (⟨#[]⟩ : ByteArray)⟩ : S78)]) x139001 x139002 x139003) else (none)))) else ((depotref03_OneText.f k x0 x9 x2).bind fun bt143 => (if bt143.2.1 < 0 then (some (x139000, bt143.2.2.1, bt143.2.2.2.1, bt143.2.2.2.2)) else (if x139000.length < 4398046511104 then (depotref03_Read.l0 k x0 x1 x2 bt143.2.1 (wrap64 (x10 + 1)) (x139000 ++ [(⟨false, 0, bt143.1⟩ : S78)]) x139001 x139002 x139003) else (none))))) else (none)) else (if x9 < (x0.size : Int) then (some (x139000, 5, x9, x9)) else (some (x139000, x139001, x139002, x9)))
end
def depotref03_Read.f (k : Nat) (a0 : ByteArray) (a1 : ByteArray) (a2 : Int) : Option ((List (S78)) × Int × Int × Int) := if a2 < 0 then (depotref03_Read.j0 k a0 a1 0) else (depotref03_Read.j0 k a0 a1 a2)
theorem depotref03_Read.mono_l : ∀ k, (∀ y0 y1 y2, LeO (depotref03_Read.j0 k y0 y1 y2) (depotref03_Read.j0 (k + 1) y0 y1 y2)) ∧ (∀ y0 y1 y2 y3 y4 y5 y6 y7 y8, LeO (depotref03_Read.l0 k y0 y1 y2 y3 y4 y5 y6 y7 y8) (depotref03_Read.l0 (k + 1) y0 y1 y2 y3 y4 y5 y6 y7 y8))
  | 0 => ⟨fun _ _ _ r h => by simp [depotref03_Read.j0] at h, fun _ _ _ _ _ _ _ _ _ r h => by simp [depotref03_Read.l0] at h⟩
  | k + 1 => by
    obtain ⟨ih0, ih1⟩ := depotref03_Read.mono_l k
    refine ⟨?_, ?_⟩
    · intro y0 y1 y2
      unfold depotref03_Read.j0
      repeat' first
      | (with_reducible exact ih0 _ _ _)
      | (with_reducible exact ih1 _ _ _ _ _ _ _ _ _)
      | (with_reducible exact depotref03_Num.mono _ _ _)
      | (with_reducible exact depotref03_OneText.mono _ _ _ _)
      | (with_reducible exact depotref03_Planned.mono _ _)
      | (with_reducible exact LeO.refl _)
      | (with_reducible exact LeO.none _)
      | (with_reducible refine LeO.ite ?_ ?_)
      | (with_reducible refine LeO.bind ?_ (fun _ => ?_))
      | exact ih0 _ _ _
      | exact ih1 _ _ _ _ _ _ _ _ _
      | exact depotref03_Num.mono _ _ _
      | exact depotref03_OneText.mono _ _ _ _
      | exact depotref03_Planned.mono _ _
      | exact LeO.none _
      | refine LeO.ite ?_ ?_
      | refine LeO.bind ?_ (fun _ => ?_)
    · intro y0 y1 y2 y3 y4 y5 y6 y7 y8
      unfold depotref03_Read.l0
      repeat' first
      | (with_reducible exact ih0 _ _ _)
      | (with_reducible exact ih1 _ _ _ _ _ _ _ _ _)
      | (with_reducible exact depotref03_Num.mono _ _ _)
      | (with_reducible exact depotref03_OneText.mono _ _ _ _)
      | (with_reducible exact depotref03_Planned.mono _ _)
      | (with_reducible exact LeO.refl _)
      | (with_reducible exact LeO.none _)
      | (with_reducible refine LeO.ite ?_ ?_)
      | (with_reducible refine LeO.bind ?_ (fun _ => ?_))
      | exact ih0 _ _ _
      | exact ih1 _ _ _ _ _ _ _ _ _
      | exact depotref03_Num.mono _ _ _
      | exact depotref03_OneText.mono _ _ _ _
      | exact depotref03_Planned.mono _ _
      | exact LeO.none _
      | refine LeO.ite ?_ ?_
      | refine LeO.bind ?_ (fun _ => ?_)
theorem depotref03_Read.mono : ∀ a0 a1 a2 k, LeO (depotref03_Read.f k a0 a1 a2) (depotref03_Read.f (k + 1) a0 a1 a2) := by
  intro a0 a1 a2 k
  obtain ⟨ih0, ih1⟩ := depotref03_Read.mono_l k
  unfold depotref03_Read.f
  repeat' first
      | (with_reducible exact ih0 _ _ _)
      | (with_reducible exact ih1 _ _ _ _ _ _ _ _ _)
      | (with_reducible exact depotref03_Num.mono _ _ _)
      | (with_reducible exact depotref03_OneText.mono _ _ _ _)
      | (with_reducible exact depotref03_Planned.mono _ _)
      | (with_reducible exact LeO.refl _)
      | (with_reducible exact LeO.none _)
      | (with_reducible refine LeO.ite ?_ ?_)
      | (with_reducible refine LeO.bind ?_ (fun _ => ?_))
      | exact ih0 _ _ _
      | exact ih1 _ _ _ _ _ _ _ _ _
      | exact depotref03_Num.mono _ _ _
      | exact depotref03_OneText.mono _ _ _ _
      | exact depotref03_Planned.mono _ _
      | exact LeO.none _
      | refine LeO.ite ?_ ?_
      | refine LeO.bind ?_ (fun _ => ?_)
def depotref03_Read.T15 : Bool × List (List Nat × List Nat) := (true, [([], []), ([0], [0]), ([], []), ([], []), ([2, 3], [2, 3]), ([4], [4]), ([5], [5]), ([1, 6, 4], [1, 6]), ([0, 1, 2, 3, 4, 5, 6, 7], []), ([8, 7, 7, 0, 1, 2, 3, 4, 5, 6, 7], [7, 8])])
def depotref03_Read.B15 : List Nat := [0, 1, 0, 0, 12, 28, 60, 127, 255, 511]
theorem depotref03_Read.tab15 : rtab .any (opsOf Try.f20 15) = depotref03_Read.T15 := by kernel_rfl
theorem depotref03_Read.bits15 : waitsOk depotref03_Read.T15.2 depotref03_Read.B15 = true := by kernel_rfl
set_option maxHeartbeats 8000000 in
set_option maxRecDepth 100000 in
theorem depotref03_Read.calls (k : Nat) (a0 : ByteArray) (a1 : ByteArray) (a2 : Int) (r1 : List (S78)) (r2 : Int) (r3 : Int) (r4 : Int) (w : World) (h : depotref03_Read.f k a0 a1 a2 = some (r1, r2, r3, r4)) :
    Calls Try.prog 20 #[.string a0, .string a1, .int .i64 a2] w fun e w' => ∃ v0_ : Value, e = .returned (.agg #[v0_, .int .i64 r2, .int .i64 r3, .int .i64 r4]) ∧ Kd.R k78 78 w' w.heap.size (fun _ => True) v0_ r1 ∧ Below w.heap.size w w' := by
  have hu36 := Try.underlying36
  have hu78 := Try.underlying78
  have HB := Aside0.mk (Below.refl w.heap.size w)
  have H : (if a2 < 0 then (depotref03_Read.j0 k a0 a1 0) else (depotref03_Read.j0 k a0 a1 a2)) = some (r1, r2, r3, r4) := h
  clear h
  have HC4 := Aside0.mk H
  clear H
  go_enter Try.func20, Try.ntmps20
  go_upto_if 17 with (first | ((with_reducible refine gate_dst (N := 6) rfl ?_); refine box_event ?hg (N := 6) ?hd (cs := #[.slice none 0 0, .int .i64 0, .int .i64 0, .int .i64 0]) (t := 36) ?hr ?_; (case hd => rfl); (case hg => rfl); (case hr => first | (go_simp; done) | (go_simp; rfl)); intro gb136 hg w5 hbox hb; have n0_ := Aside0.mk (below_step (by repeat (first | (with_reducible first | exact HB.out | apply below_alloc | apply pw_below_drewN | apply below_drew1) | exact HB.out)) hb); have n1_ := Aside0.mk (hbox); have n2_ := Aside0.mk ((by rw [hg]; exact (below_size (by repeat (first | (with_reducible first | exact HB.out | apply below_alloc | apply pw_below_drewN | apply below_drew1) | exact HB.out))) : w.heap.size ≤ gb136)); have n3_ := Aside0.mk ((by rw [hg]; exact (below_size (by repeat (first | (with_reducible first | exact HB.out | apply below_alloc | apply pw_below_drewN | apply below_drew1) | exact HB.out))) : w.heap.size ≤ gb136)); clear HB; have HB := n0_; have BK136 := n1_; have GW136 := n2_; have GE136 := n3_; clear n0_ n1_ n2_ n3_; clear hb hbox hg))
  (try simp only [Act.put, List.setIfInBounds_toArray, List.set_cons_zero, List.set_cons_succ])
  go_cut [2] (fun v2 wc => ∃ (kq : Nat) (x2_3 : Int), v2 = .int .i64 x2_3 ∧ Aside0 (depotref03_Read.j0 kq a0 a1 x2_3 = some (r1, r2, r3, r4)) ∧ Aside0 (kq ≤ k) ∧ Aside0 (wc.heap[gb136]? = some (.cells #[(.slice none 0 0), .int .i64 0, .int .i64 0, .int .i64 0] 36 (0, 0))) ∧ Aside0 (Below w.heap.size w wc))
  case first =>
    have H := HC4.out
    clear HC4
    by_cases c6 : a2 < 0
    · rw [if_pos c6] at H
      have c6b0 : decide (a2 < 0) = true := decide_eq_true c6
      clear c6
      (first | rw [c6b0] | (simp only [i64_w, i32_w]; rw [c6b0]) | skip)
      have H' := Aside0.mk H
      clear H
      go_wp2
      go_meet
      case rel => exact ⟨_, (0), (by first | rfl | (simp; done) | (simp [*]; done)), H', ⟨by first | omega | exact Nat.le_refl _⟩, ⟨by (with_reducible repeat (first | refine blk_drewN ?_ _ | refine blk_drew ?_ | refine blk_alloc ?_ _)); exact BK136.out⟩, ⟨by repeat (first | (with_reducible first | exact HB.out | apply below_alloc | apply pw_below_drewN | apply below_drew1 | refine below_set ?_ GE136.out) | exact HB.out)⟩⟩
    · rw [if_neg c6] at H
      have c6b0 : decide (a2 < 0) = false := decide_eq_false c6
      clear c6
      (first | rw [c6b0] | (simp only [i64_w, i32_w]; rw [c6b0]) | skip)
      have H' := Aside0.mk H
      clear H
      go_wp2
      go_meet
      case rel => exact ⟨_, (a2), (by first | rfl | (simp; done) | (simp [*]; done)), H', ⟨by first | omega | exact Nat.le_refl _⟩, ⟨by (with_reducible repeat (first | refine blk_drewN ?_ _ | refine blk_drew ?_ | refine blk_alloc ?_ _)); exact BK136.out⟩, ⟨by repeat (first | (with_reducible first | exact HB.out | apply below_alloc | apply pw_below_drewN | apply below_drew1 | refine below_set ?_ GE136.out) | exact HB.out)⟩⟩
  case rest =>
    clear HC4
    try clear c2
    try clear p2
    try clear c6
    try clear c6b0
    obtain ⟨kq, x2_3, rfl, HA, HJ3, BK136, HB⟩ := hcut
    cases kq with
    | zero => exact absurd HA.out (by simp [depotref03_Read.j0])
    | succ kj3 =>
      have H := HA.out
      clear HA
      simp only [depotref03_Read.j0] at H
      replace H := Option.bind_eq_some_iff.mp H
      obtain ⟨t137, A70, H⟩ := H
      replace H : (if t137 ≥ 0 then (some (([] : List (S78)), 30, t137, 0)) else (depotref03_Read.l0 kj3 a0 a1 x2_3 0 0 ([] : List (S78)) 0 0 0)) = some (r1, r2, r3, r4) := H
      have A7 := Aside0.mk A70
      clear A70
      by_cases c8 : t137 ≥ 0
      · rw [if_pos c8] at H
        have c8b0 : decide (0 ≤ t137) = true := decide_eq_true c8
        clear c8
        simp only [Option.some.injEq, Prod.mk.injEq] at H
        obtain ⟨rfl, rfl, rfl, rfl⟩ := H
        go_wp2_with (first | ((with_reducible refine gate_callee (f := 34) rfl ?_); refine goesL_ (some 19) rfl rfl Try.func34 (by kernel_rfl) rfl #[.string a1] rfl (by (try simp only [List.map_toArray, List.map_cons, List.map_nil]); first | done | rfl | (simp only [List.length_drop, List.length_take]; rfl)) ?_; (with_reducible refine (depotref03_Planned.calls kj3 a1 t137 _ A7.out).mono ?_); rintro e w' ⟨rfl, ⟨nd, rfl⟩⟩; refine ⟨_, rfl, ?_⟩; (try (rw [drewN_self wc]; generalize hq_ : World.drewN wc _ = wc; have n0_ : Aside0 (wc.heap[gb136]? = some (.cells #[.slice none 0 0, .int .i64 0, .int .i64 0, .int .i64 0] 36 (0, 0))) := ⟨by rw [← hq_]; exact (by (with_reducible repeat (first | refine blk_drewN ?_ _ | refine blk_drew ?_ | refine blk_alloc ?_ _)); exact BK136.out)⟩; have n1_ : Aside0 (Below w.heap.size w wc) := ⟨by rw [← hq_]; exact (by repeat (first | (with_reducible first | exact HB.out | apply below_alloc | apply pw_below_drewN | apply below_drew1 | refine below_set ?_ GE136.out) | exact HB.out))⟩; clear BK136 HB hq_; have BK136 := n0_; have HB := n1_; clear n0_ n1_)); have hcz9_0 : wc.cell? ⟨gb136, 0, none⟩ = some (.slice none 0 0) := (blk_cell BK136.out 0).trans rfl; have hcz9_1 : wc.cell? ⟨gb136, 1, none⟩ = some (.int .i64 0) := (blk_cell BK136.out 1).trans rfl; have hcz9_2 : wc.cell? ⟨gb136, 2, none⟩ = some (.int .i64 0) := (blk_cell BK136.out 2).trans rfl; have hcz9_3 : wc.cell? ⟨gb136, 3, none⟩ = some (.int .i64 0) := (blk_cell BK136.out 3).trans rfl; have hfz9_0 := blk_frozen BK136.out 0; have hfz9_1 := blk_frozen BK136.out 1; have hfz9_2 := blk_frozen BK136.out 2; have hfz9_3 := blk_frozen BK136.out 3))
        refine bodyPost_ret (results_cell_row rfl _ _ gb136 36 #[.slice none 0 0, .int .i64 30, .int .i64 t137, .int .i64 0] (0, 0) _ rfl (by (with_reducible repeat (first | refine blk_drewN ?_ _ | refine blk_drew ?_ | refine blk_alloc ?_ _)); refine blk_put (cs := #[.slice none 0 0, .int .i64 30, .int .i64 t137, .int .i64 0]) ?_ 3 _ rfl; (with_reducible repeat (first | refine blk_drewN ?_ _ | refine blk_drew ?_ | refine blk_alloc ?_ _)); refine blk_put (cs := #[.slice none 0 0, .int .i64 30, .int .i64 0, .int .i64 0]) ?_ 2 _ rfl; (with_reducible repeat (first | refine blk_drewN ?_ _ | refine blk_drew ?_ | refine blk_alloc ?_ _)); refine blk_put (cs := #[.slice none 0 0, .int .i64 0, .int .i64 0, .int .i64 0]) ?_ 1 _ rfl; (with_reducible repeat (first | refine blk_drewN ?_ _ | refine blk_drew ?_ | refine blk_alloc ?_ _)); refine blk_put (cs := #[.slice none 0 0, .int .i64 0, .int .i64 0, .int .i64 0]) ?_ 0 _ rfl; (with_reducible repeat (first | refine blk_drewN ?_ _ | refine blk_drew ?_ | refine blk_alloc ?_ _)); exact BK136.out) Try.underlying36 rfl (by kernel_rfl)) rfl ?_
        exact ⟨_, by first | rfl | (simp [errW_none, errW_some] <;> rfl) | (simp [*, errW_none, errW_some] <;> rfl), by first | exact Kd.R_nil _ _ _ _ _ | exact Kd.N_nil _ _ _ _ _ | exact Kd.V_nil _ _ _ _ _ | exact Kd.Q_nil _ _ _ _ _ | exact Kd.S_nil _ _ _ _ _, by repeat (first | (with_reducible first | exact HB.out | apply below_alloc | apply pw_below_drewN | apply below_drew1 | refine below_set ?_ GE136.out) | exact HB.out)⟩
      · rw [if_neg c8] at H
        have c8b0 : decide (0 ≤ t137) = false := decide_eq_false c8
        clear c8
        have H' := Aside0.mk H
        clear H
        go_wp2_with (first | ((with_reducible refine gate_callee (f := 34) rfl ?_); refine goesL_ (some 19) rfl rfl Try.func34 (by kernel_rfl) rfl #[.string a1] rfl (by (try simp only [List.map_toArray, List.map_cons, List.map_nil]); first | done | rfl | (simp only [List.length_drop, List.length_take]; rfl)) ?_; (with_reducible refine (depotref03_Planned.calls kj3 a1 t137 _ A7.out).mono ?_); rintro e w' ⟨rfl, ⟨nd, rfl⟩⟩; refine ⟨_, rfl, ?_⟩) | ((with_reducible refine gate_dst (N := 8) rfl ?_); refine box_event ?hg (N := 8) ?hd (cs := #[.slice none 0 0, .int .i64 0, .int .i64 0, .int .i64 0]) (t := 36) ?hr ?_; (case hd => rfl); (case hg => rfl); (case hr => first | (go_simp; done) | (go_simp; rfl)); intro gb138 hg w10 hbox hb; have n0_ := Aside0.mk (blk_below (g := gb136) (o := .cells #[.slice none 0 0, .int .i64 0, .int .i64 0, .int .i64 0] 36 (0, 0)) (by (with_reducible repeat (first | refine blk_drewN ?_ _ | refine blk_drew ?_ | refine blk_alloc ?_ _)); exact BK136.out) hb); have n1_ := Aside0.mk (below_step (by repeat (first | (with_reducible first | exact HB.out | apply below_alloc | apply pw_below_drewN | apply below_drew1 | refine below_set ?_ GE136.out) | exact HB.out)) hb); have n2_ := Aside0.mk (hbox); have n3_ := Aside0.mk ((by rw [hg]; exact (below_size (by repeat (first | (with_reducible first | exact HB.out | apply below_alloc | apply pw_below_drewN | apply below_drew1 | refine below_set ?_ GE136.out) | exact HB.out))) : w.heap.size ≤ gb138)); have n4_ := Aside0.mk ((by rw [hg]; exact (below_size (by repeat (first | (with_reducible first | exact HB.out | apply below_alloc | apply pw_below_drewN | apply below_drew1 | refine below_set ?_ GE136.out) | exact HB.out))) : w.heap.size ≤ gb138)); have n5_ := Aside0.mk ((by rw [hg]; exact Nat.ne_of_lt (blk_lt (g := gb136) (o := .cells #[.slice none 0 0, .int .i64 0, .int .i64 0, .int .i64 0] 36 (0, 0)) (by (with_reducible repeat (first | refine blk_drewN ?_ _ | refine blk_drew ?_ | refine blk_alloc ?_ _)); exact BK136.out)) : gb136 ≠ gb138)); have n6_ := Aside0.mk ((by rw [hg]; exact Nat.ne_of_gt (blk_lt (g := gb136) (o := .cells #[.slice none 0 0, .int .i64 0, .int .i64 0, .int .i64 0] 36 (0, 0)) (by (with_reducible repeat (first | refine blk_drewN ?_ _ | refine blk_drew ?_ | refine blk_alloc ?_ _)); exact BK136.out)) : gb138 ≠ gb136)); clear BK136; clear HB; have BK136 := n0_; have HB := n1_; have BK138 := n2_; have GW138 := n3_; have GE138 := n4_; have NB136_138 := n5_; have NB138_136 := n6_; clear n0_ n1_ n2_ n3_ n4_ n5_ n6_; clear hb hbox hg))
        go_loopg [9, 10] kj3 (fun kq v9 v10 w' => ∃ (x9_2 : Int) (x10_2 : Int) (x137001_2 : Int) (x137002_2 : Int) (x137003_2 : Int) (x139000_2 : List (S78)) (x139001_2 : Int) (x139002_2 : Int) (x139003_2 : Int) (u139000 : Value), v9 = .int .i64 x9_2 ∧ v10 = .int .i64 x10_2 ∧ Aside0 (depotref03_Read.l0 kq a0 a1 x2_3 x9_2 x10_2 x139000_2 x139001_2 x139002_2 x139003_2 = some (r1, r2, r3, r4)) ∧ Aside0 (kq ≤ kj3) ∧ Aside0 (Kd.R k78 78 w' w.heap.size (fun _ => True) u139000 x139000_2) ∧ Aside0 (w'.heap[gb136]? = some (.cells #[(.slice none 0 0), .int .i64 x137001_2, .int .i64 x137002_2, .int .i64 x137003_2] 36 (0, 0))) ∧ Aside0 (w'.heap[gb138]? = some (.cells #[u139000, .int .i64 x139001_2, .int .i64 x139002_2, .int .i64 x139003_2] 36 (0, 0))) ∧ Aside0 (Below w.heap.size w w'))
        case atStart => exact ⟨(0), (0), (0), (0), (0), (([] : List (S78))), (0), (0), (0), (.slice none 0 0), (by first | rfl | (simp; done) | (simp [*]; done)), (by first | rfl | (simp; done) | (simp [*]; done)), H', ⟨Nat.le_refl _⟩, ⟨by first | exact Kd.R_nil _ _ _ _ _ | exact Kd.N_nil _ _ _ _ _ | exact Kd.V_nil _ _ _ _ _ | exact Kd.Q_nil _ _ _ _ _ | exact Kd.S_nil _ _ _ _ _⟩, ⟨by (with_reducible repeat (first | refine blk_drewN ?_ _ | refine blk_drew ?_ | refine blk_alloc ?_ _)); exact BK136.out⟩, ⟨by (with_reducible repeat (first | refine blk_drewN ?_ _ | refine blk_drew ?_ | refine blk_alloc ?_ _)); exact BK138.out⟩, ⟨by repeat (first | (with_reducible first | exact HB.out | apply below_alloc | apply pw_below_drewN | apply below_drew1 | refine below_set ?_ GE136.out | refine below_set ?_ GE138.out) | exact HB.out)⟩⟩
        case round =>
          clear H'
          try clear c2
          try clear p2
          try clear c3
          try clear c6
          try clear c6b0
          try clear c8
          try clear c8b0
          try clear hcz9_0
          try clear hcz9_1
          try clear hcz9_2
          try clear hcz9_3
          try clear hfz9_0
          try clear hfz9_1
          try clear hfz9_2
          try clear hfz9_3
          try clear p2
          obtain ⟨x9_2, x10_2, x137001_2, x137002_2, x137003_2, x139000_2, x139001_2, x139002_2, x139003_2, u139000, rfl, rfl, HA, HK2, HO_139000, BK136, BK138, HB⟩ := hrel
          cases gk with
          | zero => exact absurd HA.out (by simp [depotref03_Read.l0])
          | succ k2 =>
            have H := HA.out
            clear HA
            simp only [depotref03_Read.l0] at H
            by_cases c11 : x10_2 < (a1.size : Int)
            · rw [if_pos c11] at H
              have c11b0 : decide (x10_2 < (a1.size : Int)) = true := decide_eq_true c11
              clear c11
              by_cases c12 : 0 ≤ x10_2
              · rw [if_pos c12] at H
                have c12b0 : decide (0 ≤ x10_2) = true := decide_eq_true c12
                clear c12
                by_cases c14 : (bt a1 x10_2) = 105
                · rw [if_pos c14] at H
                  have c14b0 : ((bt a1 x10_2) == 105) = true := beq_iff_eq.mpr c14
                  have c14b1 : ((bt a1 x10_2) != 105) = false := bne_eq_false_iff_eq.mpr c14
                  clear c14
                  by_cases c15 : x9_2 > (wrap64 ((a0.size : Int) - 8))
                  · rw [if_pos c15] at H
                    have c15b0 : decide ((wrap64 ((a0.size : Int) - 8)) < x9_2) = true := decide_eq_true c15
                    clear c15
                    simp only [Option.some.injEq, Prod.mk.injEq] at H
                    obtain ⟨rfl, rfl, rfl, rfl⟩ := H
                    have p13 : 0 ≤ (x10_2 : Int) := of_decide_eq_true (by first | (with_reducible assumption) | assumption)
                    have q13 : x10_2 < (a1.size : Int) := of_decide_eq_true (by first | (with_reducible assumption) | assumption)
                    have hx13 := bt_at a1 x10_2
                    replace p13 := eq_true p13
                    replace q13 := eq_true q13
                    have hnb16 := NB138_136.out
                    have hnc16 := NB136_138.out
                    have hcz17_0 : wr.cell? ⟨gb138, 0, none⟩ = some (u139000) := (blk_cell BK138.out 0).trans rfl
                    have hcz17_1 : wr.cell? ⟨gb138, 1, none⟩ = some (.int .i64 x139001_2) := (blk_cell BK138.out 1).trans rfl
                    have hcz17_2 : wr.cell? ⟨gb138, 2, none⟩ = some (.int .i64 x139002_2) := (blk_cell BK138.out 2).trans rfl
                    have hcz17_3 : wr.cell? ⟨gb138, 3, none⟩ = some (.int .i64 x139003_2) := (blk_cell BK138.out 3).trans rfl
                    have hfz17_0 := blk_frozen BK138.out 0
                    have hfz17_1 := blk_frozen BK138.out 1
                    have hfz17_2 := blk_frozen BK138.out 2
                    have hfz17_3 := blk_frozen BK138.out 3
                    obtain ⟨Ao18, co18, eo18⟩ := Kd.R_slice HO_139000.out
                    subst eo18
                    have hcz19_0 : wr.cell? ⟨gb136, 0, none⟩ = some (.slice none 0 0) := (blk_cell BK136.out 0).trans rfl
                    have hcz19_1 : wr.cell? ⟨gb136, 1, none⟩ = some (.int .i64 x137001_2) := (blk_cell BK136.out 1).trans rfl
                    have hcz19_2 : wr.cell? ⟨gb136, 2, none⟩ = some (.int .i64 x137002_2) := (blk_cell BK136.out 2).trans rfl
                    have hcz19_3 : wr.cell? ⟨gb136, 3, none⟩ = some (.int .i64 x137003_2) := (blk_cell BK136.out 3).trans rfl
                    have hfz19_0 := blk_frozen BK136.out 0
                    have hfz19_1 := blk_frozen BK136.out 1
                    have hfz19_2 := blk_frozen BK136.out 2
                    have hfz19_3 := blk_frozen BK136.out 3
                    go_wp2
                    refine bodyPost_ret (results_cell_row rfl _ _ gb136 36 #[.slice Ao18 x139000_2.length co18, .int .i64 x139001_2, .int .i64 x139002_2, .int .i64 (a0.size : Int)] (0, 0) _ rfl (by (with_reducible repeat (first | refine blk_drewN ?_ _ | refine blk_drew ?_ | refine blk_alloc ?_ _)); refine blk_put (cs := #[.slice Ao18 x139000_2.length co18, .int .i64 x139001_2, .int .i64 x139002_2, .int .i64 x137003_2]) ?_ 3 _ rfl; (with_reducible repeat (first | refine blk_drewN ?_ _ | refine blk_drew ?_ | refine blk_alloc ?_ _)); refine blk_put (cs := #[.slice Ao18 x139000_2.length co18, .int .i64 x139001_2, .int .i64 x137002_2, .int .i64 x137003_2]) ?_ 2 _ rfl; (with_reducible repeat (first | refine blk_drewN ?_ _ | refine blk_drew ?_ | refine blk_alloc ?_ _)); refine blk_put (cs := #[.slice Ao18 x139000_2.length co18, .int .i64 x137001_2, .int .i64 x137002_2, .int .i64 x137003_2]) ?_ 1 _ rfl; (with_reducible repeat (first | refine blk_drewN ?_ _ | refine blk_drew ?_ | refine blk_alloc ?_ _)); refine blk_put (cs := #[.slice none 0 0, .int .i64 x137001_2, .int .i64 x137002_2, .int .i64 x137003_2]) ?_ 0 _ rfl; (with_reducible repeat (first | refine blk_drewN ?_ _ | refine blk_drew ?_ | refine blk_alloc ?_ _)); refine blk_far ?_ NB136_138.out _; (with_reducible repeat (first | refine blk_drewN ?_ _ | refine blk_drew ?_ | refine blk_alloc ?_ _)); exact BK136.out) Try.underlying36 rfl (by kernel_rfl)) rfl ?_
                    exact ⟨_, by first | rfl | (simp [errW_none, errW_some] <;> rfl) | (simp [*, errW_none, errW_some] <;> rfl), by (with_reducible repeat (first | apply Kd.R_alloc | apply Kd.R_drewN | apply Kd.R_drew)); exact Kd.R_mono (Kd.R_far (p := ⟨gb136, 3, none⟩) (Kd.R_far (p := ⟨gb136, 2, none⟩) (Kd.R_far (p := ⟨gb136, 1, none⟩) (Kd.R_far (p := ⟨gb136, 0, none⟩) (Kd.R_far (p := ⟨gb138, 3, none⟩) (Kd.R_types (Kd.R_types HO_139000.out BK138.out (by decide)) BK136.out (by decide)) (fun _ hk => hk.1.2) (.int .i64 (a0.size : Int))) (fun _ hk => hk.2) (.slice Ao18 x139000_2.length co18)) (fun _ hk => hk.2) (.int .i64 x139001_2)) (fun _ hk => hk.2) (.int .i64 x139002_2)) (fun _ hk => hk.2) (.int .i64 (a0.size : Int))) (fun _ hk => trivial), by repeat (first | (with_reducible first | exact HB.out | apply below_alloc | apply pw_below_drewN | apply below_drew1 | refine below_set ?_ GE136.out | refine below_set ?_ GE138.out) | exact HB.out)⟩
                  · rw [if_neg c15] at H
                    have c15b0 : decide ((wrap64 ((a0.size : Int) - 8)) < x9_2) = false := decide_eq_false c15
                    clear c15
                    replace H := Option.bind_eq_some_iff.mp H
                    obtain ⟨t139, A200, H⟩ := H
                    replace H : (if x139000_2.length < 4398046511104 then (depotref03_Read.l0 k2 a0 a1 x2_3 (wrap64 (x9_2 + 8)) (wrap64 (x10_2 + 1)) (x139000_2 ++ [(⟨true, t139, (⟨#[]⟩ : ByteArray)⟩ : S78)]) x139001_2 x139002_2 x139003_2) else (none)) = some (r1, r2, r3, r4) := H
                    have A20 := Aside0.mk A200
                    clear A200
                    by_cases c21 : x139000_2.length < 4398046511104
                    · rw [if_pos c21] at H
                      have LMc21 := Aside0.mk c21
                      clear c21
                      obtain ⟨y140, hy140⟩ : ∃ y_ : List (S78), y_ = (x139000_2 ++ [(⟨true, t139, (⟨#[]⟩ : ByteArray)⟩ : S78)]) := ⟨_, rfl⟩
                      replace H : (depotref03_Read.l0 k2 a0 a1 x2_3 (wrap64 (x9_2 + 8)) (wrap64 (x10_2 + 1)) y140 x139001_2 x139002_2 x139003_2) = some (r1, r2, r3, r4) := by first | (rw [hy140]; with_reducible exact H) | (have H2_ := (Option.bind_some _ _).symm.trans H; rw [hy140]; with_reducible exact H2_) | (have H2_ := (Option.bind_some _ _).symm.trans H; with_reducible exact H2_) | with_reducible exact H | (rw [hy140]; exact H) | exact H
                      have Ny140 := Aside0.mk hy140
                      clear hy140
                      have H' := Aside0.mk H
                      clear H
                      have p13 : 0 ≤ (x10_2 : Int) := of_decide_eq_true (by first | (with_reducible assumption) | assumption)
                      have q13 : x10_2 < (a1.size : Int) := of_decide_eq_true (by first | (with_reducible assumption) | assumption)
                      have hx13 := bt_at a1 x10_2
                      replace p13 := eq_true p13
                      replace q13 := eq_true q13
                      try go_wp2
                      have n0_ := Aside0.mk (Kd.R_drew HO_139000.out)
                      have n1_ := Aside0.mk (blk_drew BK136.out)
                      have n2_ := Aside0.mk (blk_drew BK138.out)
                      have n3_ := Aside0.mk (below_drew1 HB.out)
                      clear HO_139000
                      clear BK136
                      clear BK138
                      clear HB
                      have HO_139000 := n0_
                      have BK136 := n1_
                      have BK138 := n2_
                      have HB := n3_
                      clear n0_ n1_ n2_ n3_
                      refine start_ (n := 10) (S := fun w' => w'.cell? ⟨gb138, 0, none⟩ = some (u139000) ∧ w'.cell? ⟨gb138, 1, none⟩ = some (.int .i64 x139001_2) ∧ w'.cell? ⟨gb138, 2, none⟩ = some (.int .i64 x139002_2) ∧ w'.cell? ⟨gb138, 3, none⟩ = some (.int .i64 x139003_2)) (ds := [9]) #[false, false, false, false, false, false, false, false, false, false] (by kernel_rfl) rfl rfl ⟨(blk_cell BK138.out 0).trans rfl, (blk_cell BK138.out 1).trans rfl, (blk_cell BK138.out 2).trans rfl, (blk_cell BK138.out 3).trans rfl⟩ (fun hHeld => ?_); refine with_tabW depotref03_Read.tab15 depotref03_Read.bits15 (fun HT_ HW_ => ?_)
                      generalize wr.drew = w22 at HO_139000 BK136 BK138 HB hHeld ⊢
                      refine pure_ (i := 0) (N := some 43) (v := ?_) (a' := ?_) #[true, false, false, false, false, false, false, false, false, false] rfl rfl (any_of HT_.out (by kernel_rfl)) (fun _ _ _ h => h) (Or.inl ⟨by rfl, ?_⟩) ?_ ?_
                      rotate_left
                      · intro w'
                        go_simp
                        with_reducible rfl
                      rotate_left
                      · simp only [Act.put, List.setIfInBounds_toArray, List.set_cons_zero, List.set_cons_succ, i64_w, i32_w]
                        rfl
                      refine pure_ (i := 2) (N := some 45) (v := ?_) (a' := ?_) #[true, false, true, false, false, false, false, false, false, false] rfl rfl (any_of HT_.out (by kernel_rfl)) (fun _ _ _ h => h) (Or.inl ⟨by rfl, ?_⟩) ?_ ?_
                      rotate_left
                      · intro w'
                        go_simp
                        with_reducible rfl
                      rotate_left
                      · simp only [Act.put, List.setIfInBounds_toArray, List.set_cons_zero, List.set_cons_succ, i64_w, i32_w]
                        rfl
                      refine pure_ (i := 3) (N := some 46) (v := ?_) (a' := ?_) #[true, false, true, true, false, false, false, false, false, false] rfl rfl (any_of HT_.out (by kernel_rfl)) (fun _ _ _ h => h) (Or.inl ⟨by rfl, ?_⟩) ?_ ?_
                      rotate_left
                      · intro w'
                        go_simp
                        with_reducible rfl
                      rotate_left
                      · simp only [Act.put, List.setIfInBounds_toArray, List.set_cons_zero, List.set_cons_succ, i64_w, i32_w]
                        rfl
                      refine take_ (i := 1) (N := some 44) (v := ?_) (a' := ?_) #[true, true, true, true, false, false, false, false, false, false] rfl rfl (take_ofW HT_.out HW_.out (by kernel_rfl)) (fun _ _ _ h => h) (Or.inl ⟨by rfl, ?_⟩) hHeld ?_ ?_
                      rotate_left
                      · rintro w' ⟨s0, s1, s2, s3⟩
                        go_simp
                        with_reducible rfl
                      rotate_left
                      · simp only [Act.put, List.setIfInBounds_toArray, List.set_cons_zero, List.set_cons_succ, i64_w, i32_w]
                        rfl
                      refine one_ (i := 4) (N := some 47) #[true, true, true, true, true, false, false, false, false, false] rfl rfl (one_of HT_.out (by kernel_rfl)) (by decide) (fun K hK => ?_)
                      refine goes_ Try.func35 (by kernel_rfl) rfl #[.string a0, .int .i64 x9_2] (by rfl) rfl rfl (by (try simp only [List.map_toArray, List.map_cons, List.map_nil]); first | done | rfl | (simp only [List.length_drop, List.length_take]; rfl)) ?_
                      with_reducible refine (depotref03_Num.calls k2 a0 x9_2 t139 _ A20.out).mono ?_
                      rintro e w' ⟨rfl, ⟨nd, rfl⟩⟩
                      refine ⟨_, rfl, ?_⟩
                      refine hK.out _ _ ⟨(blk_cell BK138.out 0).trans rfl, (blk_cell BK138.out 1).trans rfl, (blk_cell BK138.out 2).trans rfl, (blk_cell BK138.out 3).trans rfl⟩ (fun hHeld => ?_)
                      clear hK K
                      refine norm_ (a' := ?_) ?_ ?_
                      rotate_left
                      · show Act.put _ (some 47) _ = _
                        simp only [Act.put, List.setIfInBounds_toArray, List.set_cons_zero, List.set_cons_succ, i64_w, i32_w]
                        rfl
                      refine pure_ (i := 5) (N := some 48) (v := ?_) (a' := ?_) #[true, true, true, true, true, true, false, false, false, false] rfl rfl (any_of HT_.out (by kernel_rfl)) (fun _ _ _ h => h) (Or.inl ⟨by rfl, ?_⟩) ?_ ?_
                      rotate_left
                      · intro w'
                        go_simp
                        with_reducible rfl
                      rotate_left
                      · simp only [Act.put, List.setIfInBounds_toArray, List.set_cons_zero, List.set_cons_succ, i64_w, i32_w]
                        rfl
                      refine one_ (i := 6) (N := some 49) #[true, true, true, true, true, true, true, false, false, false] rfl rfl (one_of HT_.out (by kernel_rfl)) (by decide) (fun K hK => ?_)
                      refine value_ (w1 := ?_) (v := ?_) (by rfl) rfl ?_ ?_
                      rotate_left 2
                      · go_simp
                        constructor
                        · rfl
                        · rfl
                      refine hK.out _ _ ⟨(blk_cell (blk_alloc BK138.out _) 0).trans rfl, (blk_cell (blk_alloc BK138.out _) 1).trans rfl, (blk_cell (blk_alloc BK138.out _) 2).trans rfl, (blk_cell (blk_alloc BK138.out _) 3).trans rfl⟩ (fun hHeld => ?_)
                      clear hK K
                      refine norm_ (a' := ?_) ?_ ?_
                      rotate_left
                      · show Act.put _ (some 49) _ = _
                        simp only [Act.put, List.setIfInBounds_toArray, List.set_cons_zero, List.set_cons_succ, i64_w, i32_w]
                        rfl
                      refine one_ (i := 7) (N := some 50) #[true, true, true, true, true, true, true, true, false, false] rfl rfl (one_of HT_.out (by kernel_rfl)) (by decide) (fun K hK => ?_)
                      refine Kd.R_append_step k78 (w0 := w) w.heap.size (by rfl) (.tmp 44) (.tmp 49) 34 78 (.agg #[(.bool false), (.int .u64 0), (.string ⟨#[]⟩)]) 32 rfl Try.underlying34 info78 rfl (by decide) (by omega) u139000 x139000_2 (⟨true, t139, (⟨#[]⟩ : ByteArray)⟩ : S78) [.bool true, .int .u64 t139, .string (⟨#[]⟩ : ByteArray)] (fun _ => True) (fun _ => False) rfl rfl ?aP (fun _ hk => hk.elim) ?aF ?aO ?aB ?aS ?aL ?_
                      (case aP => exact k78_mkM _ _ _ (⟨true, t139, (⟨#[]⟩ : ByteArray)⟩ : S78))
                      (case aB => exact (by repeat (first | (with_reducible first | exact HB.out | apply below_alloc | apply pw_below_drewN | apply below_drew1 | refine below_set ?_ GE136.out | refine below_set ?_ GE138.out) | exact HB.out)))
                      (case aF => exact (fun _ _ => trivial))
                      (case aO => exact (by (with_reducible repeat (first | apply Kd.R_alloc | apply Kd.R_drewN | apply Kd.R_drew)); exact HO_139000.out))
                      (case aS => exact (below_size (by repeat (first | (with_reducible first | exact HB.out | apply below_alloc | apply pw_below_drewN | apply below_drew1 | refine below_set ?_ GE136.out | refine below_set ?_ GE138.out) | exact HB.out))))
                      (case aL => have := LMc21.out; omega)
                      intro v141 w23 ho hb hg hat
                      rw [← Ny140.out] at ho
                      have n0_ := Aside0.mk (blk_grown (g := gb136) (o := .cells #[.slice none 0 0, .int .i64 x137001_2, .int .i64 x137002_2, .int .i64 x137003_2] 36 (0, 0)) (by (with_reducible repeat (first | refine blk_drewN ?_ _ | refine blk_drew ?_ | refine blk_alloc ?_ _)); exact BK136.out) hg (Kd.R_ne HO_139000.out BK136.out (by decide)))
                      have n1_ := Aside0.mk (blk_grown (g := gb138) (o := .cells #[u139000, .int .i64 x139001_2, .int .i64 x139002_2, .int .i64 x139003_2] 36 (0, 0)) (by (with_reducible repeat (first | refine blk_drewN ?_ _ | refine blk_drew ?_ | refine blk_alloc ?_ _)); exact BK138.out) hg (Kd.R_ne HO_139000.out BK138.out (by decide)))
                      have n2_ := Aside0.mk (hb)
                      have n3_ := Aside0.mk (ho)
                      clear BK136
                      clear BK138
                      clear HB
                      clear HO_139000
                      have BK136 := n0_
                      have BK138 := n1_
                      have HB := n2_
                      have HO142 := n3_
                      clear n0_ n1_ n2_ n3_
                      clear ho hb hg hat
                      obtain ⟨Ao24, co24, eo24⟩ := Kd.R_slice HO142.out
                      (first | subst eo24 | (injection eo24 with f1_ f2_ f3_; have f4_ := f1_.symm; have f5_ := f3_.symm; clear f1_ f2_ f3_; subst f4_; subst f5_))
                      refine hK.out _ _ ⟨(blk_cell BK138.out 0).trans rfl, (blk_cell BK138.out 1).trans rfl, (blk_cell BK138.out 2).trans rfl, (blk_cell BK138.out 3).trans rfl⟩ (fun hHeld => ?_)
                      clear hK K
                      refine norm_ (a' := ?_) ?_ ?_
                      rotate_left
                      · show Act.put _ (some 50) _ = _
                        simp only [Act.put, List.setIfInBounds_toArray, List.set_cons_zero, List.set_cons_succ, i64_w, i32_w]
                        rfl
                      refine pure_ (i := 8) (N := some 51) (v := ?_) (a' := ?_) #[true, true, true, true, true, true, true, true, true, false] rfl rfl (any_of HT_.out (by kernel_rfl)) (fun _ _ _ h => h) (Or.inl ⟨by rfl, ?_⟩) ?_ ?_
                      rotate_left
                      · intro w'
                        go_simp
                        with_reducible rfl
                      rotate_left
                      · simp only [Act.put, List.setIfInBounds_toArray, List.set_cons_zero, List.set_cons_succ, i64_w, i32_w]
                        rfl
                      refine last_ (i := 9) (N := none) #[true, true, true, true, true, true, true, true, true, true] rfl rfl (one_of HT_.out (by kernel_rfl)) (by decide) (fun K hK => ?_)
                      have hs25 : w23.cell? ⟨gb138, 0, none⟩ = some (u139000) := (blk_cell BK138.out 0).trans rfl
                      have hfs25 := blk_frozen BK138.out 0
                      have hns25_0 := NB136_138.out
                      have hms25_0 := NB138_136.out
                      refine skip_ (w1 := ?_) (by rfl) rfl ?_ ?_
                      rotate_left
                      · go_simp
                        rfl
                      refine hK.out _ _ ?_
                      clear hK K
                      refine done_ (done_of HT_.out (by kernel_rfl)) ?_
                      try go_wp2
                      go_roundg k2
                      case measure => have := HJ3.out; have := HK2.out; omega
                      case rel => exact ⟨(wrap64 (x9_2 + 8)), (wrap64 (x10_2 + 1)), (x137001_2), (x137002_2), (x137003_2), (y140), (x139001_2), (x139002_2), (x139003_2), (.slice Ao24 y140.length co24), (by first | rfl | (simp; done) | (simp [*]; done)), (by first | rfl | (simp; done) | (simp [*]; done)), H', ⟨by have := HJ3.out; have := HK2.out; omega⟩, ⟨by (with_reducible repeat (first | apply Kd.R_alloc | apply Kd.R_drewN | apply Kd.R_drew)); exact Kd.R_mono (Kd.R_far (p := ⟨gb138, 0, none⟩) (Kd.R_types HO142.out BK138.out (by decide)) (fun _ hk => hk.2) (.slice Ao24 y140.length co24)) (fun _ hk => trivial)⟩, ⟨by (with_reducible repeat (first | refine blk_drewN ?_ _ | refine blk_drew ?_ | refine blk_alloc ?_ _)); refine blk_far ?_ NB136_138.out _; (with_reducible repeat (first | refine blk_drewN ?_ _ | refine blk_drew ?_ | refine blk_alloc ?_ _)); exact BK136.out⟩, ⟨by (with_reducible repeat (first | refine blk_drewN ?_ _ | refine blk_drew ?_ | refine blk_alloc ?_ _)); refine blk_put (cs := #[u139000, .int .i64 x139001_2, .int .i64 x139002_2, .int .i64 x139003_2]) ?_ 0 _ rfl; (with_reducible repeat (first | refine blk_drewN ?_ _ | refine blk_drew ?_ | refine blk_alloc ?_ _)); exact BK138.out⟩, ⟨by repeat (first | (with_reducible first | exact HB.out | apply below_alloc | apply pw_below_drewN | apply below_drew1 | refine below_set ?_ GE136.out | refine below_set ?_ GE138.out) | exact HB.out)⟩⟩
                    · rw [if_neg c21] at H
                      exact absurd H (by simp)
                · rw [if_neg c14] at H
                  have c14b0 : ((bt a1 x10_2) == 105) = false := beq_eq_false_iff_ne.mpr c14
                  have c14b1 : ((bt a1 x10_2) != 105) = true := bne_iff_ne.mpr c14
                  replace H := Option.bind_eq_some_iff.mp H
                  obtain ⟨⟨t143, t144, t145, t146, t147⟩, A260, H⟩ := H
                  replace H : (if t144 < 0 then (some (x139000_2, t145, t146, t147)) else (if x139000_2.length < 4398046511104 then (depotref03_Read.l0 k2 a0 a1 x2_3 t144 (wrap64 (x10_2 + 1)) (x139000_2 ++ [(⟨false, 0, t143⟩ : S78)]) x139001_2 x139002_2 x139003_2) else (none))) = some (r1, r2, r3, r4) := H
                  have A26 := Aside0.mk A260
                  clear A260
                  by_cases c27 : t144 < 0
                  · rw [if_pos c27] at H
                    have c27b0 : decide (t144 < 0) = true := decide_eq_true c27
                    clear c27
                    simp only [Option.some.injEq, Prod.mk.injEq] at H
                    obtain ⟨rfl, rfl, rfl, rfl⟩ := H
                    have p13 : 0 ≤ (x10_2 : Int) := of_decide_eq_true (by first | (with_reducible assumption) | assumption)
                    have q13 : x10_2 < (a1.size : Int) := of_decide_eq_true (by first | (with_reducible assumption) | assumption)
                    have hx13 := bt_at a1 x10_2
                    replace p13 := eq_true p13
                    replace q13 := eq_true q13
                    go_wp2_with (first | ((with_reducible refine gate_callee (f := 36) rfl ?_); refine goesL_ (some 58) rfl rfl Try.func36 (by kernel_rfl) rfl #[.string a0, .int .i64 x9_2, .int .i64 x2_3] rfl (by (try simp only [List.map_toArray, List.map_cons, List.map_nil]); first | done | rfl | (simp only [List.length_drop, List.length_take]; rfl)) ?_; (with_reducible refine (depotref03_OneText.calls k2 a0 x9_2 x2_3 t143 t144 t145 t146 t147 _ A26.out).mono ?_); rintro e w' ⟨rfl, ⟨nd, rfl⟩⟩; refine ⟨_, rfl, ?_⟩; (try (rw [drewN_self wr]; generalize hq_ : World.drewN wr _ = wr; have n0_ : Aside0 (Kd.R k78 78 wr w.heap.size (fun _ => True) u139000 x139000_2) := ⟨by rw [← hq_]; exact (by (with_reducible repeat (first | apply Kd.R_alloc | apply Kd.R_drewN | apply Kd.R_drew)); exact HO_139000.out)⟩; have n1_ : Aside0 (wr.heap[gb136]? = some (.cells #[.slice none 0 0, .int .i64 x137001_2, .int .i64 x137002_2, .int .i64 x137003_2] 36 (0, 0))) := ⟨by rw [← hq_]; exact (by (with_reducible repeat (first | refine blk_drewN ?_ _ | refine blk_drew ?_ | refine blk_alloc ?_ _)); exact BK136.out)⟩; have n2_ : Aside0 (wr.heap[gb138]? = some (.cells #[u139000, .int .i64 x139001_2, .int .i64 x139002_2, .int .i64 x139003_2] 36 (0, 0))) := ⟨by rw [← hq_]; exact (by (with_reducible repeat (first | refine blk_drewN ?_ _ | refine blk_drew ?_ | refine blk_alloc ?_ _)); exact BK138.out)⟩; have n3_ : Aside0 (Below w.heap.size w wr) := ⟨by rw [← hq_]; exact (by repeat (first | (with_reducible first | exact HB.out | apply below_alloc | apply pw_below_drewN | apply below_drew1 | refine below_set ?_ GE136.out | refine below_set ?_ GE138.out) | exact HB.out))⟩; clear HO_139000 BK136 BK138 HB hq_; have HO_139000 := n0_; have BK136 := n1_; have BK138 := n2_; have HB := n3_; clear n0_ n1_ n2_ n3_)); have hnb28 := NB138_136.out; have hnc28 := NB136_138.out; have hcz29_0 : wr.cell? ⟨gb138, 0, none⟩ = some (u139000) := (blk_cell BK138.out 0).trans rfl; have hcz29_1 : wr.cell? ⟨gb138, 1, none⟩ = some (.int .i64 x139001_2) := (blk_cell BK138.out 1).trans rfl; have hcz29_2 : wr.cell? ⟨gb138, 2, none⟩ = some (.int .i64 x139002_2) := (blk_cell BK138.out 2).trans rfl; have hcz29_3 : wr.cell? ⟨gb138, 3, none⟩ = some (.int .i64 x139003_2) := (blk_cell BK138.out 3).trans rfl; have hfz29_0 := blk_frozen BK138.out 0; have hfz29_1 := blk_frozen BK138.out 1; have hfz29_2 := blk_frozen BK138.out 2; have hfz29_3 := blk_frozen BK138.out 3; obtain ⟨Ao30, co30, eo30⟩ := Kd.R_slice HO_139000.out; subst eo30; have hcz31_0 : wr.cell? ⟨gb136, 0, none⟩ = some (.slice none 0 0) := (blk_cell BK136.out 0).trans rfl; have hcz31_1 : wr.cell? ⟨gb136, 1, none⟩ = some (.int .i64 x137001_2) := (blk_cell BK136.out 1).trans rfl; have hcz31_2 : wr.cell? ⟨gb136, 2, none⟩ = some (.int .i64 x137002_2) := (blk_cell BK136.out 2).trans rfl; have hcz31_3 : wr.cell? ⟨gb136, 3, none⟩ = some (.int .i64 x137003_2) := (blk_cell BK136.out 3).trans rfl; have hfz31_0 := blk_frozen BK136.out 0; have hfz31_1 := blk_frozen BK136.out 1; have hfz31_2 := blk_frozen BK136.out 2; have hfz31_3 := blk_frozen BK136.out 3))
                    refine bodyPost_ret (results_cell_row rfl _ _ gb136 36 #[.slice Ao30 x139000_2.length co30, .int .i64 t145, .int .i64 t146, .int .i64 t147] (0, 0) _ rfl (by (with_reducible repeat (first | refine blk_drewN ?_ _ | refine blk_drew ?_ | refine blk_alloc ?_ _)); refine blk_put (cs := #[.slice Ao30 x139000_2.length co30, .int .i64 t145, .int .i64 t146, .int .i64 x137003_2]) ?_ 3 _ rfl; (with_reducible repeat (first | refine blk_drewN ?_ _ | refine blk_drew ?_ | refine blk_alloc ?_ _)); refine blk_put (cs := #[.slice Ao30 x139000_2.length co30, .int .i64 t145, .int .i64 x137002_2, .int .i64 x137003_2]) ?_ 2 _ rfl; (with_reducible repeat (first | refine blk_drewN ?_ _ | refine blk_drew ?_ | refine blk_alloc ?_ _)); refine blk_put (cs := #[.slice Ao30 x139000_2.length co30, .int .i64 x137001_2, .int .i64 x137002_2, .int .i64 x137003_2]) ?_ 1 _ rfl; (with_reducible repeat (first | refine blk_drewN ?_ _ | refine blk_drew ?_ | refine blk_alloc ?_ _)); refine blk_put (cs := #[.slice none 0 0, .int .i64 x137001_2, .int .i64 x137002_2, .int .i64 x137003_2]) ?_ 0 _ rfl; (with_reducible repeat (first | refine blk_drewN ?_ _ | refine blk_drew ?_ | refine blk_alloc ?_ _)); refine blk_far ?_ NB136_138.out _; (with_reducible repeat (first | refine blk_drewN ?_ _ | refine blk_drew ?_ | refine blk_alloc ?_ _)); refine blk_far ?_ NB136_138.out _; (with_reducible repeat (first | refine blk_drewN ?_ _ | refine blk_drew ?_ | refine blk_alloc ?_ _)); refine blk_far ?_ NB136_138.out _; (with_reducible repeat (first | refine blk_drewN ?_ _ | refine blk_drew ?_ | refine blk_alloc ?_ _)); exact BK136.out) Try.underlying36 rfl (by kernel_rfl)) rfl ?_
                    exact ⟨_, by first | rfl | (simp [errW_none, errW_some] <;> rfl) | (simp [*, errW_none, errW_some] <;> rfl), by (with_reducible repeat (first | apply Kd.R_alloc | apply Kd.R_drewN | apply Kd.R_drew)); exact Kd.R_mono (Kd.R_far (p := ⟨gb136, 3, none⟩) (Kd.R_far (p := ⟨gb136, 2, none⟩) (Kd.R_far (p := ⟨gb136, 1, none⟩) (Kd.R_far (p := ⟨gb136, 0, none⟩) (Kd.R_far (p := ⟨gb138, 3, none⟩) (Kd.R_far (p := ⟨gb138, 2, none⟩) (Kd.R_far (p := ⟨gb138, 1, none⟩) (Kd.R_types (Kd.R_types HO_139000.out BK138.out (by decide)) BK136.out (by decide)) (fun _ hk => hk.1.2) (.int .i64 t145)) (fun _ hk => hk.1.2) (.int .i64 t146)) (fun _ hk => hk.1.2) (.int .i64 t147)) (fun _ hk => hk.2) (.slice Ao30 x139000_2.length co30)) (fun _ hk => hk.2) (.int .i64 t145)) (fun _ hk => hk.2) (.int .i64 t146)) (fun _ hk => hk.2) (.int .i64 t147)) (fun _ hk => trivial), by repeat (first | (with_reducible first | exact HB.out | apply below_alloc | apply pw_below_drewN | apply below_drew1 | refine below_set ?_ GE136.out | refine below_set ?_ GE138.out) | exact HB.out)⟩
                  · rw [if_neg c27] at H
                    have c27b0 : decide (t144 < 0) = false := decide_eq_false c27
                    clear c27
                    by_cases c32 : x139000_2.length < 4398046511104
                    · rw [if_pos c32] at H
                      have LMc32 := Aside0.mk c32
                      clear c32
                      obtain ⟨y148, hy148⟩ : ∃ y_ : List (S78), y_ = (x139000_2 ++ [(⟨false, 0, t143⟩ : S78)]) := ⟨_, rfl⟩
                      replace H : (depotref03_Read.l0 k2 a0 a1 x2_3 t144 (wrap64 (x10_2 + 1)) y148 x139001_2 x139002_2 x139003_2) = some (r1, r2, r3, r4) := by first | (rw [hy148]; with_reducible exact H) | (have H2_ := (Option.bind_some _ _).symm.trans H; rw [hy148]; with_reducible exact H2_) | (have H2_ := (Option.bind_some _ _).symm.trans H; with_reducible exact H2_) | with_reducible exact H | (rw [hy148]; exact H) | exact H
                      have Ny148 := Aside0.mk hy148
                      clear hy148
                      have H' := Aside0.mk H
                      clear H
                      have p13 : 0 ≤ (x10_2 : Int) := of_decide_eq_true (by first | (with_reducible assumption) | assumption)
                      have q13 : x10_2 < (a1.size : Int) := of_decide_eq_true (by first | (with_reducible assumption) | assumption)
                      have hx13 := bt_at a1 x10_2
                      replace p13 := eq_true p13
                      replace q13 := eq_true q13
                      go_wp2_with (first | ((with_reducible refine gate_callee (f := 36) rfl ?_); refine goesL_ (some 58) rfl rfl Try.func36 (by kernel_rfl) rfl #[.string a0, .int .i64 x9_2, .int .i64 x2_3] rfl (by (try simp only [List.map_toArray, List.map_cons, List.map_nil]); first | done | rfl | (simp only [List.length_drop, List.length_take]; rfl)) ?_; (with_reducible refine (depotref03_OneText.calls k2 a0 x9_2 x2_3 t143 t144 t145 t146 t147 _ A26.out).mono ?_); rintro e w' ⟨rfl, ⟨nd, rfl⟩⟩; refine ⟨_, rfl, ?_⟩; (try (rw [drewN_self wr]; generalize hq_ : World.drewN wr _ = wr; have n0_ : Aside0 (Kd.R k78 78 wr w.heap.size (fun _ => True) u139000 x139000_2) := ⟨by rw [← hq_]; exact (by (with_reducible repeat (first | apply Kd.R_alloc | apply Kd.R_drewN | apply Kd.R_drew)); exact HO_139000.out)⟩; have n1_ : Aside0 (wr.heap[gb136]? = some (.cells #[.slice none 0 0, .int .i64 x137001_2, .int .i64 x137002_2, .int .i64 x137003_2] 36 (0, 0))) := ⟨by rw [← hq_]; exact (by (with_reducible repeat (first | refine blk_drewN ?_ _ | refine blk_drew ?_ | refine blk_alloc ?_ _)); exact BK136.out)⟩; have n2_ : Aside0 (wr.heap[gb138]? = some (.cells #[u139000, .int .i64 x139001_2, .int .i64 x139002_2, .int .i64 x139003_2] 36 (0, 0))) := ⟨by rw [← hq_]; exact (by (with_reducible repeat (first | refine blk_drewN ?_ _ | refine blk_drew ?_ | refine blk_alloc ?_ _)); exact BK138.out)⟩; have n3_ : Aside0 (Below w.heap.size w wr) := ⟨by rw [← hq_]; exact (by repeat (first | (with_reducible first | exact HB.out | apply below_alloc | apply pw_below_drewN | apply below_drew1 | refine below_set ?_ GE136.out | refine below_set ?_ GE138.out) | exact HB.out))⟩; clear HO_139000 BK136 BK138 HB hq_; have HO_139000 := n0_; have BK136 := n1_; have BK138 := n2_; have HB := n3_; clear n0_ n1_ n2_ n3_)); have hnb33 := NB138_136.out; have hnc33 := NB136_138.out; have hcz34_0 : wr.cell? ⟨gb138, 0, none⟩ = some (u139000) := (blk_cell BK138.out 0).trans rfl; have hcz34_1 : wr.cell? ⟨gb138, 1, none⟩ = some (.int .i64 x139001_2) := (blk_cell BK138.out 1).trans rfl; have hcz34_2 : wr.cell? ⟨gb138, 2, none⟩ = some (.int .i64 x139002_2) := (blk_cell BK138.out 2).trans rfl; have hcz34_3 : wr.cell? ⟨gb138, 3, none⟩ = some (.int .i64 x139003_2) := (blk_cell BK138.out 3).trans rfl; have hfz34_0 := blk_frozen BK138.out 0; have hfz34_1 := blk_frozen BK138.out 1; have hfz34_2 := blk_frozen BK138.out 2; have hfz34_3 := blk_frozen BK138.out 3) | ((with_reducible refine gate_builtin (b := .append) (xs := #[.tmp 74, .tmp 77]) rfl ?_); at_builtin; refine Kd.R_append k78 (w0 := w) w.heap.size rfl (.tmp 74) (.tmp 77) 34 78 (.agg #[(.bool false), (.int .u64 0), (.string ⟨#[]⟩)]) 32 rfl Try.underlying34 info78 rfl (by decide) (by omega) u139000 x139000_2 (⟨false, 0, t143⟩ : S78) [.bool false, .int .u64 0, .string t143] (fun _ => True) (fun _ => False) rfl rfl ?aP (fun _ hk => hk.elim) ?aF ?aO ?aB ?aS ?aL ?_; (case aP => exact k78_mkM _ _ _ (⟨false, 0, t143⟩ : S78)); (case aB => exact (by repeat (first | (with_reducible first | exact HB.out | apply below_alloc | apply pw_below_drewN | apply below_drew1 | refine below_set ?_ GE136.out | refine below_set ?_ GE138.out) | exact HB.out))); (case aF => exact (fun _ _ => trivial)); (case aO => exact (by (with_reducible repeat (first | apply Kd.R_alloc | apply Kd.R_drewN | apply Kd.R_drew)); exact HO_139000.out)); (case aS => exact (below_size (by repeat (first | (with_reducible first | exact HB.out | apply below_alloc | apply pw_below_drewN | apply below_drew1 | refine below_set ?_ GE136.out | refine below_set ?_ GE138.out) | exact HB.out)))); (case aL => have := LMc32.out; omega); intro v149 w35 ho hb hg hat; rw [← Ny148.out] at ho; have n0_ := Aside0.mk (blk_grown (g := gb136) (o := .cells #[.slice none 0 0, .int .i64 x137001_2, .int .i64 x137002_2, .int .i64 x137003_2] 36 (0, 0)) (by (with_reducible repeat (first | refine blk_drewN ?_ _ | refine blk_drew ?_ | refine blk_alloc ?_ _)); exact BK136.out) hg (Kd.R_ne HO_139000.out BK136.out (by decide))); have n1_ := Aside0.mk (blk_grown (g := gb138) (o := .cells #[u139000, .int .i64 x139001_2, .int .i64 x139002_2, .int .i64 x139003_2] 36 (0, 0)) (by (with_reducible repeat (first | refine blk_drewN ?_ _ | refine blk_drew ?_ | refine blk_alloc ?_ _)); exact BK138.out) hg (Kd.R_ne HO_139000.out BK138.out (by decide))); have n2_ := Aside0.mk (hb); have n3_ := Aside0.mk (ho); clear BK136; clear BK138; clear HB; clear HO_139000; have BK136 := n0_; have BK138 := n1_; have HB := n2_; have HO150 := n3_; clear n0_ n1_ n2_ n3_; clear ho hb hg hat; obtain ⟨Ao36, co36, eo36⟩ := Kd.R_slice HO150.out; subst eo36; have hcz37_0 : w35.cell? ⟨gb138, 0, none⟩ = some (u139000) := (blk_cell BK138.out 0).trans rfl; have hcz37_1 : w35.cell? ⟨gb138, 1, none⟩ = some (.int .i64 x139001_2) := (blk_cell BK138.out 1).trans rfl; have hcz37_2 : w35.cell? ⟨gb138, 2, none⟩ = some (.int .i64 x139002_2) := (blk_cell BK138.out 2).trans rfl; have hcz37_3 : w35.cell? ⟨gb138, 3, none⟩ = some (.int .i64 x139003_2) := (blk_cell BK138.out 3).trans rfl; have hfz37_0 := blk_frozen BK138.out 0; have hfz37_1 := blk_frozen BK138.out 1; have hfz37_2 := blk_frozen BK138.out 2; have hfz37_3 := blk_frozen BK138.out 3))
                      go_roundg k2
                      case measure => have := HJ3.out; have := HK2.out; omega
                      case rel => exact ⟨(t144), (wrap64 (x10_2 + 1)), (x137001_2), (x137002_2), (x137003_2), (y148), (x139001_2), (x139002_2), (x139003_2), (.slice Ao36 y148.length co36), (by first | rfl | (simp; done) | (simp [*]; done)), (by first | rfl | (simp; done) | (simp [*]; done)), H', ⟨by have := HJ3.out; have := HK2.out; omega⟩, ⟨by (with_reducible repeat (first | apply Kd.R_alloc | apply Kd.R_drewN | apply Kd.R_drew)); exact Kd.R_mono (Kd.R_far (p := ⟨gb138, 0, none⟩) (Kd.R_types HO150.out BK138.out (by decide)) (fun _ hk => hk.2) (.slice Ao36 y148.length co36)) (fun _ hk => trivial)⟩, ⟨by (with_reducible repeat (first | refine blk_drewN ?_ _ | refine blk_drew ?_ | refine blk_alloc ?_ _)); refine blk_far ?_ NB136_138.out _; (with_reducible repeat (first | refine blk_drewN ?_ _ | refine blk_drew ?_ | refine blk_alloc ?_ _)); exact BK136.out⟩, ⟨by (with_reducible repeat (first | refine blk_drewN ?_ _ | refine blk_drew ?_ | refine blk_alloc ?_ _)); refine blk_put (cs := #[u139000, .int .i64 x139001_2, .int .i64 x139002_2, .int .i64 x139003_2]) ?_ 0 _ rfl; (with_reducible repeat (first | refine blk_drewN ?_ _ | refine blk_drew ?_ | refine blk_alloc ?_ _)); exact BK138.out⟩, ⟨by repeat (first | (with_reducible first | exact HB.out | apply below_alloc | apply pw_below_drewN | apply below_drew1 | refine below_set ?_ GE136.out | refine below_set ?_ GE138.out) | exact HB.out)⟩⟩
                    · rw [if_neg c32] at H
                      exact absurd H (by simp)
              · rw [if_neg c12] at H
                exact absurd H (by simp)
            · rw [if_neg c11] at H
              have c11b0 : decide (x10_2 < (a1.size : Int)) = false := decide_eq_false c11
              clear c11
              by_cases c38 : x9_2 < (a0.size : Int)
              · rw [if_pos c38] at H
                have c38b0 : decide (x9_2 < (a0.size : Int)) = true := decide_eq_true c38
                clear c38
                simp only [Option.some.injEq, Prod.mk.injEq] at H
                obtain ⟨rfl, rfl, rfl, rfl⟩ := H
                have hnb39 := NB138_136.out
                have hnc39 := NB136_138.out
                have hcz40_0 : wr.cell? ⟨gb138, 0, none⟩ = some (u139000) := (blk_cell BK138.out 0).trans rfl
                have hcz40_1 : wr.cell? ⟨gb138, 1, none⟩ = some (.int .i64 x139001_2) := (blk_cell BK138.out 1).trans rfl
                have hcz40_2 : wr.cell? ⟨gb138, 2, none⟩ = some (.int .i64 x139002_2) := (blk_cell BK138.out 2).trans rfl
                have hcz40_3 : wr.cell? ⟨gb138, 3, none⟩ = some (.int .i64 x139003_2) := (blk_cell BK138.out 3).trans rfl
                have hfz40_0 := blk_frozen BK138.out 0
                have hfz40_1 := blk_frozen BK138.out 1
                have hfz40_2 := blk_frozen BK138.out 2
                have hfz40_3 := blk_frozen BK138.out 3
                obtain ⟨Ao41, co41, eo41⟩ := Kd.R_slice HO_139000.out
                subst eo41
                have hcz42_0 : wr.cell? ⟨gb136, 0, none⟩ = some (.slice none 0 0) := (blk_cell BK136.out 0).trans rfl
                have hcz42_1 : wr.cell? ⟨gb136, 1, none⟩ = some (.int .i64 x137001_2) := (blk_cell BK136.out 1).trans rfl
                have hcz42_2 : wr.cell? ⟨gb136, 2, none⟩ = some (.int .i64 x137002_2) := (blk_cell BK136.out 2).trans rfl
                have hcz42_3 : wr.cell? ⟨gb136, 3, none⟩ = some (.int .i64 x137003_2) := (blk_cell BK136.out 3).trans rfl
                have hfz42_0 := blk_frozen BK136.out 0
                have hfz42_1 := blk_frozen BK136.out 1
                have hfz42_2 := blk_frozen BK136.out 2
                have hfz42_3 := blk_frozen BK136.out 3
                go_wp2
                refine bodyPost_ret (results_cell_row rfl _ _ gb136 36 #[.slice Ao41 x139000_2.length co41, .int .i64 5, .int .i64 x9_2, .int .i64 x9_2] (0, 0) _ rfl (by (with_reducible repeat (first | refine blk_drewN ?_ _ | refine blk_drew ?_ | refine blk_alloc ?_ _)); refine blk_put (cs := #[.slice Ao41 x139000_2.length co41, .int .i64 5, .int .i64 x9_2, .int .i64 x137003_2]) ?_ 3 _ rfl; (with_reducible repeat (first | refine blk_drewN ?_ _ | refine blk_drew ?_ | refine blk_alloc ?_ _)); refine blk_put (cs := #[.slice Ao41 x139000_2.length co41, .int .i64 5, .int .i64 x137002_2, .int .i64 x137003_2]) ?_ 2 _ rfl; (with_reducible repeat (first | refine blk_drewN ?_ _ | refine blk_drew ?_ | refine blk_alloc ?_ _)); refine blk_put (cs := #[.slice Ao41 x139000_2.length co41, .int .i64 x137001_2, .int .i64 x137002_2, .int .i64 x137003_2]) ?_ 1 _ rfl; (with_reducible repeat (first | refine blk_drewN ?_ _ | refine blk_drew ?_ | refine blk_alloc ?_ _)); refine blk_put (cs := #[.slice none 0 0, .int .i64 x137001_2, .int .i64 x137002_2, .int .i64 x137003_2]) ?_ 0 _ rfl; (with_reducible repeat (first | refine blk_drewN ?_ _ | refine blk_drew ?_ | refine blk_alloc ?_ _)); refine blk_far ?_ NB136_138.out _; (with_reducible repeat (first | refine blk_drewN ?_ _ | refine blk_drew ?_ | refine blk_alloc ?_ _)); refine blk_far ?_ NB136_138.out _; (with_reducible repeat (first | refine blk_drewN ?_ _ | refine blk_drew ?_ | refine blk_alloc ?_ _)); refine blk_far ?_ NB136_138.out _; (with_reducible repeat (first | refine blk_drewN ?_ _ | refine blk_drew ?_ | refine blk_alloc ?_ _)); exact BK136.out) Try.underlying36 rfl (by kernel_rfl)) rfl ?_
                exact ⟨_, by first | rfl | (simp [errW_none, errW_some] <;> rfl) | (simp [*, errW_none, errW_some] <;> rfl), by (with_reducible repeat (first | apply Kd.R_alloc | apply Kd.R_drewN | apply Kd.R_drew)); exact Kd.R_mono (Kd.R_far (p := ⟨gb136, 3, none⟩) (Kd.R_far (p := ⟨gb136, 2, none⟩) (Kd.R_far (p := ⟨gb136, 1, none⟩) (Kd.R_far (p := ⟨gb136, 0, none⟩) (Kd.R_far (p := ⟨gb138, 2, none⟩) (Kd.R_far (p := ⟨gb138, 1, none⟩) (Kd.R_far (p := ⟨gb138, 3, none⟩) (Kd.R_types (Kd.R_types HO_139000.out BK138.out (by decide)) BK136.out (by decide)) (fun _ hk => hk.1.2) (.int .i64 x9_2)) (fun _ hk => hk.1.2) (.int .i64 5)) (fun _ hk => hk.1.2) (.int .i64 x9_2)) (fun _ hk => hk.2) (.slice Ao41 x139000_2.length co41)) (fun _ hk => hk.2) (.int .i64 5)) (fun _ hk => hk.2) (.int .i64 x9_2)) (fun _ hk => hk.2) (.int .i64 x9_2)) (fun _ hk => trivial), by repeat (first | (with_reducible first | exact HB.out | apply below_alloc | apply pw_below_drewN | apply below_drew1 | refine below_set ?_ GE136.out | refine below_set ?_ GE138.out) | exact HB.out)⟩
              · rw [if_neg c38] at H
                have c38b0 : decide (x9_2 < (a0.size : Int)) = false := decide_eq_false c38
                clear c38
                simp only [Option.some.injEq, Prod.mk.injEq] at H
                obtain ⟨rfl, rfl, rfl, rfl⟩ := H
                have hnb43 := NB138_136.out
                have hnc43 := NB136_138.out
                have hcz44_0 : wr.cell? ⟨gb138, 0, none⟩ = some (u139000) := (blk_cell BK138.out 0).trans rfl
                have hcz44_1 : wr.cell? ⟨gb138, 1, none⟩ = some (.int .i64 x139001_2) := (blk_cell BK138.out 1).trans rfl
                have hcz44_2 : wr.cell? ⟨gb138, 2, none⟩ = some (.int .i64 x139002_2) := (blk_cell BK138.out 2).trans rfl
                have hcz44_3 : wr.cell? ⟨gb138, 3, none⟩ = some (.int .i64 x139003_2) := (blk_cell BK138.out 3).trans rfl
                have hfz44_0 := blk_frozen BK138.out 0
                have hfz44_1 := blk_frozen BK138.out 1
                have hfz44_2 := blk_frozen BK138.out 2
                have hfz44_3 := blk_frozen BK138.out 3
                obtain ⟨Ao45, co45, eo45⟩ := Kd.R_slice HO_139000.out
                subst eo45
                have hcz46_0 : wr.cell? ⟨gb136, 0, none⟩ = some (.slice none 0 0) := (blk_cell BK136.out 0).trans rfl
                have hcz46_1 : wr.cell? ⟨gb136, 1, none⟩ = some (.int .i64 x137001_2) := (blk_cell BK136.out 1).trans rfl
                have hcz46_2 : wr.cell? ⟨gb136, 2, none⟩ = some (.int .i64 x137002_2) := (blk_cell BK136.out 2).trans rfl
                have hcz46_3 : wr.cell? ⟨gb136, 3, none⟩ = some (.int .i64 x137003_2) := (blk_cell BK136.out 3).trans rfl
                have hfz46_0 := blk_frozen BK136.out 0
                have hfz46_1 := blk_frozen BK136.out 1
                have hfz46_2 := blk_frozen BK136.out 2
                have hfz46_3 := blk_frozen BK136.out 3
                go_wp2
                refine bodyPost_ret (results_cell_row rfl _ _ gb136 36 #[.slice Ao45 x139000_2.length co45, .int .i64 x139001_2, .int .i64 x139002_2, .int .i64 x9_2] (0, 0) _ rfl (by (with_reducible repeat (first | refine blk_drewN ?_ _ | refine blk_drew ?_ | refine blk_alloc ?_ _)); refine blk_put (cs := #[.slice Ao45 x139000_2.length co45, .int .i64 x139001_2, .int .i64 x139002_2, .int .i64 x137003_2]) ?_ 3 _ rfl; (with_reducible repeat (first | refine blk_drewN ?_ _ | refine blk_drew ?_ | refine blk_alloc ?_ _)); refine blk_put (cs := #[.slice Ao45 x139000_2.length co45, .int .i64 x139001_2, .int .i64 x137002_2, .int .i64 x137003_2]) ?_ 2 _ rfl; (with_reducible repeat (first | refine blk_drewN ?_ _ | refine blk_drew ?_ | refine blk_alloc ?_ _)); refine blk_put (cs := #[.slice Ao45 x139000_2.length co45, .int .i64 x137001_2, .int .i64 x137002_2, .int .i64 x137003_2]) ?_ 1 _ rfl; (with_reducible repeat (first | refine blk_drewN ?_ _ | refine blk_drew ?_ | refine blk_alloc ?_ _)); refine blk_put (cs := #[.slice none 0 0, .int .i64 x137001_2, .int .i64 x137002_2, .int .i64 x137003_2]) ?_ 0 _ rfl; (with_reducible repeat (first | refine blk_drewN ?_ _ | refine blk_drew ?_ | refine blk_alloc ?_ _)); refine blk_far ?_ NB136_138.out _; (with_reducible repeat (first | refine blk_drewN ?_ _ | refine blk_drew ?_ | refine blk_alloc ?_ _)); exact BK136.out) Try.underlying36 rfl (by kernel_rfl)) rfl ?_
                exact ⟨_, by first | rfl | (simp [errW_none, errW_some] <;> rfl) | (simp [*, errW_none, errW_some] <;> rfl), by (with_reducible repeat (first | apply Kd.R_alloc | apply Kd.R_drewN | apply Kd.R_drew)); exact Kd.R_mono (Kd.R_far (p := ⟨gb136, 3, none⟩) (Kd.R_far (p := ⟨gb136, 2, none⟩) (Kd.R_far (p := ⟨gb136, 1, none⟩) (Kd.R_far (p := ⟨gb136, 0, none⟩) (Kd.R_far (p := ⟨gb138, 3, none⟩) (Kd.R_types (Kd.R_types HO_139000.out BK138.out (by decide)) BK136.out (by decide)) (fun _ hk => hk.1.2) (.int .i64 x9_2)) (fun _ hk => hk.2) (.slice Ao45 x139000_2.length co45)) (fun _ hk => hk.2) (.int .i64 x139001_2)) (fun _ hk => hk.2) (.int .i64 x139002_2)) (fun _ hk => hk.2) (.int .i64 x9_2)) (fun _ hk => trivial), by repeat (first | (with_reducible first | exact HB.out | apply below_alloc | apply pw_below_drewN | apply below_drew1 | refine below_set ?_ GE136.out | refine below_set ?_ GE138.out) | exact HB.out)⟩

end Go.Proofs.Ytnilogameaaooaa.Q
/- The plain reader, phase by phase. -/
namespace Go.Proofs.Ytnilogameaaooaa.Rdr
open Go.RowKit Go.Proofs.Ytnilogameaaooaa.Q Go.Proofs.Ytnilogameaaooaa.Tail Go.Proofs.YtnilogameaaooaaW.PrintWords Go.Proofs.YtnilogameaaooaaW.PrintLast Go.Proofs.YtnilogameaaooaaW.PrintMore Go.Proofs.Ytnilogameaaooaa.Bytes
set_option linter.unusedVariables false
set_option linter.unusedSimpArgs false

/-- The number in bytes, the lowest first. -/
def val : List Int → Int
  | [] => 0
  | c :: l => c + 256 * val l
def Byts (l : List Int) : Prop := ∀ x ∈ l, 0 ≤ x ∧ x < 256
theorem Byts.cons {c : Int} {l : List Int} (h : Byts (c :: l)) : (0 ≤ c ∧ c < 256) ∧ Byts l := ⟨h c List.mem_cons_self, fun x hx => h x (List.mem_cons_of_mem _ hx)⟩
theorem Byts.app {l m : List Int} (h : Byts (l ++ m)) : Byts l ∧ Byts m := ⟨fun x hx => h x (List.mem_append_left _ hx), fun x hx => h x (List.mem_append_right _ hx)⟩
theorem stop_of {p : Ps} (h0 : p.code = 0) (h1 : p.shut = false) : ¬ p.stopped = true := by unfold Ps.stopped; rw [h0, h1]; simp
/-- A reader in the head of an item. -/
structure Head (p : Ps) : Prop where
  code : p.code = 0
  shut : p.shut = false
  item : p.item < (p.plan.size : Int)
  state : p.state = 0
  need : 1 ≤ p.need ∧ p.need ≤ 8
  num : 0 ≤ p.num ∧ p.num < 256 ^ (8 - p.need).toNat
theorem pow_next (j : Int) (h : 1 ≤ j) (h8 : j ≤ 8) : (256 : Int) ^ (8 - (j - 1)).toNat = 256 * 256 ^ (8 - j).toNat := by
  have : (8 - (j - 1)).toNat = (8 - j).toNat + 1 := by omega
  rw [this, Int.pow_succ, Int.mul_comm]
theorem tk_head_more {p : Ps} (h : Head p) {c : Int} (hc : 0 ≤ c ∧ c < 256) (h1 : p.need ≠ 1) : (tk p c).1 = true ∧ tick p c = { p with num := p.num + 256 ^ (8 - p.need).toNat * c, need := p.need - 1, taken := p.taken + 1 } := by
  obtain ⟨o1, o2⟩ := orNum_add p.num c p.need h.num.1 h.num.2 hc.1 hc.2 h.need.1 h.need.2
  have e : tk p c = (true, { p with num := orNum p.num c p.need, need := p.need - 1 }) := by unfold tk; rw [if_pos h.state, if_neg (fun q => h1 q.1)]
  refine ⟨by rw [e], ?_⟩
  unfold tick
  rw [e, o1, Int.mul_comm c]
theorem head_step {p : Ps} (h : Head p) {c : Int} (hc : 0 ≤ c ∧ c < 256) (h1 : p.need ≠ 1) : Head { p with num := p.num + 256 ^ (8 - p.need).toNat * c, need := p.need - 1, taken := p.taken + 1 } := by
  obtain ⟨o1, o2⟩ := orNum_add p.num c p.need h.num.1 h.num.2 hc.1 hc.2 h.need.1 h.need.2
  have hp : (0 : Int) ≤ 256 ^ (8 - p.need).toNat := Int.pow_nonneg (by omega)
  have hm := Int.mul_nonneg hp hc.1
  have hn := h.need
  refine ⟨h.code, h.shut, h.item, h.state, by simp only; omega, by have := h.num.1; simp only; omega, ?_⟩
  simp only
  rw [show 8 - (p.need - 1) = 9 - p.need by omega, Int.mul_comm]
  exact o2
theorem head_app : ∀ (xs : List Int) (p : Ps) (rest : List Int), Head p → Byts xs → (xs.length : Int) < p.need →
    Head { p with num := p.num + 256 ^ (8 - p.need).toNat * val xs, need := p.need - xs.length, taken := p.taken + xs.length } ∧ feed p (xs ++ rest) = feed { p with num := p.num + 256 ^ (8 - p.need).toNat * val xs, need := p.need - xs.length, taken := p.taken + xs.length } rest
  | [], p, rest, h, _, _ => by
    have e : ({ p with num := p.num + 256 ^ (8 - p.need).toNat * val [], need := p.need - (([] : List Int).length : Int), taken := p.taken + (([] : List Int).length : Int) } : Ps) = p := by
      simp [val]
    rw [e]
    exact ⟨h, rfl⟩
  | c :: xs, p, rest, h, hb, hl => by
    obtain ⟨hc, hb⟩ := hb.cons
    have hl : ((xs.length + 1 : Nat) : Int) < p.need := hl
    have h1 : p.need ≠ 1 := by omega
    obtain ⟨t1, t2⟩ := tk_head_more h hc h1
    have hs := head_step h hc h1
    obtain ⟨i1, i2⟩ := head_app xs _ rest hs hb (by simp only; omega)
    have e : ({ ({ p with num := p.num + 256 ^ (8 - p.need).toNat * c, need := p.need - 1, taken := p.taken + 1 } : Ps) with num := ({ p with num := p.num + 256 ^ (8 - p.need).toNat * c, need := p.need - 1, taken := p.taken + 1 } : Ps).num + 256 ^ (8 - (p.need - 1)).toNat * val xs, need := (p.need - 1) - (xs.length : Int), taken := (p.taken + 1) + (xs.length : Int) } : Ps) = { p with num := p.num + 256 ^ (8 - p.need).toNat * val (c :: xs), need := p.need - ((c :: xs).length : Int), taken := p.taken + ((c :: xs).length : Int) } := by
      rw [pow_next p.need h.need.1 h.need.2]
      simp only [val, List.length_cons]
      congr 1
      · push_cast; omega
      · rw [Int.mul_add, Int.add_assoc]
        congr 2
        rw [← Int.mul_assoc, Int.mul_comm 256]
      · push_cast; omega
    rw [← e]
    refine ⟨i1, ?_⟩
    rw [← i2, List.cons_append, feed_more (stop_of h.code h.shut) (by have := h.item; omega) t1 (by rw [t2]; simp only; omega), t2]
/-- The last byte of a head: too long. -/
theorem head_long {p : Ps} (h : Head p) (h1 : p.need = 1) {c : Int} (hc : 0 ≤ c ∧ c < 256) (ht : bt p.plan p.item = 116) (hm : p.most < p.num + 256 ^ (8 - p.need).toNat * c) (rest : List Int) :
    feed p (c :: rest) = ({ p with num := p.num + 256 ^ (8 - p.need).toNat * c, code := 6, place := p.start }, []) := by
  obtain ⟨o1, o2⟩ := orNum_add p.num c p.need h.num.1 h.num.2 hc.1 hc.2 h.need.1 h.need.2
  rw [Int.mul_comm c] at o1
  have e : tk p c = (false, { p with num := orNum p.num c p.need, code := 6, place := p.start }) := by unfold tk; rw [if_pos h.state, if_pos ⟨h1, ht, by rw [o1]; exact hm⟩]
  rw [feed_bad (stop_of h.code h.shut) (by have := h.item; omega) (by rw [e]; simp), e, o1]
/-- The last byte of a head: the phase is done. -/
theorem head_done {p : Ps} (h : Head p) (h1 : p.need = 1) {c : Int} (hc : 0 ≤ c ∧ c < 256) (hno : ¬ (bt p.plan p.item = 116 ∧ p.most < p.num + 256 ^ (8 - p.need).toNat * c)) (rest : List Int) {q : Ps} (hq : q = { p with num := p.num + 256 ^ (8 - p.need).toNat * c, need := 0, taken := p.taken + 1 }) :
    feed p (c :: rest) = ((feed (nx q).2 rest).1, (nx q).1.toList ++ (feed (nx q).2 rest).2) := by
  obtain ⟨o1, o2⟩ := orNum_add p.num c p.need h.num.1 h.num.2 hc.1 hc.2 h.need.1 h.need.2
  rw [Int.mul_comm c] at o1
  have e : tk p c = (true, { p with num := orNum p.num c p.need, need := p.need - 1 }) := by unfold tk; rw [if_pos h.state, if_neg (fun r => hno ⟨r.2.1, by rw [← o1]; exact r.2.2⟩)]
  have hz : p.need - 1 = 0 := by omega
  have e2 : tick p c = q := by unfold tick; rw [e, o1, hq]; simp only [hz]
  have hn : ¬ 0 < (tick p c).need := by rw [e2, hq]; simp
  rw [feed_next (stop_of h.code h.shut) (by have := h.item; omega) (by rw [e]) hn, e2]
/-- A reader in a text's bytes, or in its padding. -/
structure Body (p : Ps) : Prop where
  code : p.code = 0
  shut : p.shut = false
  item : p.item < (p.plan.size : Int)
  need : 1 ≤ p.need
theorem text_app : ∀ (xs : List Int) (p : Ps) (rest : List Int), Body p → p.state = 1 → (xs.length : Int) < p.need →
    Body { p with text := p.text ++ xs, need := p.need - xs.length, taken := p.taken + xs.length } ∧ feed p (xs ++ rest) = feed { p with text := p.text ++ xs, need := p.need - xs.length, taken := p.taken + xs.length } rest
  | [], p, rest, h, _, _ => by
    have e : ({ p with text := p.text ++ [], need := p.need - (([] : List Int).length : Int), taken := p.taken + (([] : List Int).length : Int) } : Ps) = p := by simp
    rw [e]
    exact ⟨h, rfl⟩
  | c :: xs, p, rest, h, hs, hl => by
    have hl : ((xs.length + 1 : Nat) : Int) < p.need := hl
    have t1 := tk_text (c := c) hs
    have t2 := tick_text (c := c) hs
    have hb : Body { p with need := p.need - 1, text := p.text ++ [c], taken := p.taken + 1 } := ⟨h.code, h.shut, h.item, by simp only; omega⟩
    obtain ⟨i1, i2⟩ := text_app xs { p with need := p.need - 1, text := p.text ++ [c], taken := p.taken + 1 } rest hb hs (by simp only; omega)
    have e : ({ ({ p with need := p.need - 1, text := p.text ++ [c], taken := p.taken + 1 } : Ps) with text := (p.text ++ [c]) ++ xs, need := (p.need - 1) - (xs.length : Int), taken := (p.taken + 1) + (xs.length : Int) } : Ps) = { p with text := p.text ++ (c :: xs), need := p.need - ((c :: xs).length : Int), taken := p.taken + ((c :: xs).length : Int) } := by
      simp only [List.length_cons, List.append_assoc, List.cons_append, List.nil_append]
      congr 1
      · push_cast; omega
      · push_cast; omega
    rw [← e]
    refine ⟨i1, ?_⟩
    rw [← i2, List.cons_append, feed_more (stop_of h.code h.shut) (by have := h.item; omega) (by rw [t1]) (by rw [t2]; simp only; omega), t2]
theorem text_done {p : Ps} (h : Body p) (hs : p.state = 1) (h1 : p.need = 1) (c : Int) (rest : List Int) {q : Ps} (hq : q = { p with text := p.text ++ [c], need := 0, taken := p.taken + 1 }) :
    feed p (c :: rest) = ((feed (nx q).2 rest).1, (nx q).1.toList ++ (feed (nx q).2 rest).2) := by
  have hz : p.need - 1 = 0 := by omega
  have e2 : tick p c = q := by rw [tick_text hs, hq]; simp only [hz]
  have hn : ¬ 0 < (tick p c).need := by rw [e2, hq]; simp
  rw [feed_next (stop_of h.code h.shut) (by have := h.item; omega) (by rw [tk_text hs]) hn, e2]
theorem tk_zero {p : Ps} (hs : p.state = 2) : tk p 0 = (true, { p with need := p.need - 1 }) := by
  unfold tk
  rw [if_neg (by omega), if_neg (by omega), if_pos rfl]
theorem pad_app : ∀ (j : Nat) (p : Ps) (rest : List Int), Body p → p.state = 2 → (j : Int) < p.need →
    Body { p with need := p.need - j, taken := p.taken + j } ∧ feed p (List.replicate j 0 ++ rest) = feed { p with need := p.need - j, taken := p.taken + j } rest
  | 0, p, rest, h, _, _ => by
    have e : ({ p with need := p.need - ((0 : Nat) : Int), taken := p.taken + ((0 : Nat) : Int) } : Ps) = p := by simp
    rw [e]
    exact ⟨h, rfl⟩
  | j + 1, p, rest, h, hs, hl => by
    have t2 : tick p 0 = { p with need := p.need - 1, taken := p.taken + 1 } := by unfold tick; rw [tk_zero hs]
    have hb : Body { p with need := p.need - 1, taken := p.taken + 1 } := ⟨h.code, h.shut, h.item, by simp only; omega⟩
    obtain ⟨i1, i2⟩ := pad_app j { p with need := p.need - 1, taken := p.taken + 1 } rest hb hs (by simp only; omega)
    have e : ({ ({ p with need := p.need - 1, taken := p.taken + 1 } : Ps) with need := (p.need - 1) - (j : Int), taken := (p.taken + 1) + (j : Int) } : Ps) = { p with need := p.need - ((j + 1 : Nat) : Int), taken := p.taken + ((j + 1 : Nat) : Int) } := by
      have n1 : (p.need - 1) - (j : Int) = p.need - ((j + 1 : Nat) : Int) := by omega
      have n2 : (p.taken + 1) + (j : Int) = p.taken + ((j + 1 : Nat) : Int) := by omega
      simp only [n1, n2]
    rw [← e]
    refine ⟨i1, ?_⟩
    rw [← i2, List.replicate_succ, List.cons_append, feed_more (stop_of h.code h.shut) (by have := h.item; omega) (by rw [tk_zero hs]) (by rw [t2]; simp only; omega), t2]
theorem pad_bad {p : Ps} (h : Body p) (hs : p.state = 2) {c : Int} (hc : c ≠ 0) (rest : List Int) : feed p (c :: rest) = ({ p with code := 7, place := p.taken }, []) := by
  have e : tk p c = (false, { p with code := 7, place := p.taken }) := by unfold tk; rw [if_neg (by omega), if_neg (by omega), if_neg hc]
  rw [feed_bad (stop_of h.code h.shut) (by have := h.item; omega) (by rw [e]; simp), e]
theorem pad_done {p : Ps} (h : Body p) (hs : p.state = 2) (h1 : p.need = 1) (rest : List Int) {q : Ps} (hq : q = { p with need := 0, taken := p.taken + 1 }) :
    feed p (0 :: rest) = ((feed (nx q).2 rest).1, (nx q).1.toList ++ (feed (nx q).2 rest).2) := by
  have hz : p.need - 1 = 0 := by omega
  have e2 : tick p 0 = q := by unfold tick; rw [tk_zero hs, hq]; simp only [hz]
  have hn : ¬ 0 < (tick p 0).need := by rw [e2, hq]; simp
  rw [feed_next (stop_of h.code h.shut) (by have := h.item; omega) (by rw [tk_zero hs]) hn, e2]
end Go.Proofs.Ytnilogameaaooaa.Rdr
/- What a whole text is to the plain reader: item by item. -/
namespace Go.Proofs.Ytnilogameaaooaa.Rdr
open Go.RowKit Go.Proofs.Ytnilogameaaooaa.Q Go.Proofs.Ytnilogameaaooaa.Tail Go.Proofs.YtnilogameaaooaaW.PrintWords Go.Proofs.YtnilogameaaooaaW.PrintLast Go.Proofs.YtnilogameaaooaaW.PrintMore Go.Proofs.Ytnilogameaaooaa.Bytes
set_option linter.unusedVariables false
set_option linter.unusedSimpArgs false

def firstNZ : List Int → Option Nat
  | [] => none
  | c :: l => if c = 0 then (firstNZ l).map (· + 1) else some 0
theorem firstNZ_none : ∀ (l : List Int), firstNZ l = none → l = List.replicate l.length 0
  | [], _ => rfl
  | c :: l, h => by
    simp only [firstNZ] at h
    split at h
    · rename_i hc
      have := firstNZ_none l (by cases hf : firstNZ l with
        | none => rfl
        | some j => rw [hf] at h; cases h)
      rw [hc, List.length_cons, List.replicate_succ, ← this]
    · cases h
theorem firstNZ_some : ∀ (l : List Int) (j : Nat), firstNZ l = some j → ∃ c r, c ≠ 0 ∧ l = List.replicate j 0 ++ c :: r
  | [], j, h => by cases h
  | c :: l, j, h => by
    simp only [firstNZ] at h
    split at h
    · rename_i hc
      cases hf : firstNZ l with
      | none => rw [hf] at h; cases h
      | some i =>
        rw [hf] at h
        injection h with h
        subst h
        obtain ⟨d, r, hd, e⟩ := firstNZ_some l i hf
        exact ⟨d, r, hd, by rw [hc, e, List.replicate_succ, List.cons_append]⟩
    · rename_i hc
      injection h with h
      subst h
      exact ⟨c, l, hc, rfl⟩
theorem val_app : ∀ (xs : List Int) (ys : List Int), val (xs ++ ys) = val xs + 256 ^ xs.length * val ys
  | [], ys => by simp [val]
  | c :: xs, ys => by
    simp only [List.cons_append, val, val_app xs ys, List.length_cons]
    rw [Int.pow_succ, Int.mul_add, Int.add_assoc]
    congr 2
    rw [← Int.mul_assoc, Int.mul_comm 256]
theorem val_nonneg : ∀ (xs : List Int), Byts xs → 0 ≤ val xs
  | [], _ => Int.le_refl _
  | c :: xs, h => by
    have := val_nonneg xs h.cons.2
    have := h.cons.1.1
    simp only [val]; omega
def parse (m : Int) : List UInt8 → List Int → Int → List S55 × Int × Int × Int
  | [], b, t => if b = [] then ([], 0, 0, t) else ([], 5, t, t)
  | c :: l, b, t =>
    if b.length < 8 then ([], 0, 0, t + b.length)
    else if c = 105 then (⟨true, val (b.take 8), ⟨#[]⟩⟩ :: (parse m l (b.drop 8) (t + 8)).1, (parse m l (b.drop 8) (t + 8)).2)
    else if m < val (b.take 8) then ([], 6, t, t + 7)
    else
      match firstNZ (((b.drop 8).drop (val (b.take 8)).toNat).take (padOf (val (b.take 8)).toNat)) with
      | some j => ([], 7, t + 8 + (val (b.take 8)).toNat + j, t + 8 + (val (b.take 8)).toNat + j)
      | none =>
        if (b.drop 8).length < (val (b.take 8)).toNat + padOf (val (b.take 8)).toNat then ([], 0, 0, t + b.length)
        else (⟨false, 0, strOfNums ((b.drop 8).take (val (b.take 8)).toNat)⟩ :: (parse m l ((b.drop 8).drop ((val (b.take 8)).toNat + padOf (val (b.take 8)).toNat)) (t + 8 + (val (b.take 8)).toNat + padOf (val (b.take 8)).toNat)).1, (parse m l ((b.drop 8).drop ((val (b.take 8)).toNat + padOf (val (b.take 8)).toNat)) (t + 8 + (val (b.take 8)).toNat + padOf (val (b.take 8)).toNat)).2)
/-- A reader at the beginning of an item. -/
structure Fresh (p : Ps) : Prop where
  code : p.code = 0
  place : p.place = 0
  shut : p.shut = false
  state : p.state = 0
  need : p.need = 8
  num : p.num = 0
  text : p.text = []
  start : p.start = p.taken
/-- What feed has answered is what was parsed. -/
structure Answers (p : Ps) (r : Ps × List S55) (s : List S55 × Int × Int × Int) : Prop where
  items : r.2 = s.1
  code : r.1.code = s.2.1
  place : r.1.place = s.2.2.1
  taken : r.1.taken = s.2.2.2
  item : r.1.item = p.item + (s.1.length : Int)
  plan : r.1.plan = p.plan
  shut : r.1.shut = false
theorem fresh_next {q : Ps} (h0 : q.code = 0) (h1 : q.place = 0) (h2 : q.shut = false) : Fresh q.next := ⟨h0, h1, h2, rfl, rfl, rfl, rfl, rfl⟩
/-- One item more in front. -/
theorem answers_cons {p q : Ps} {it : S55} {r : Ps × List S55} {s : List S55 × Int × Int × Int} (h : Answers q.next r s) (hi : q.item = p.item) (hp : q.plan = p.plan) :
    Answers p (r.1, (some it).toList ++ r.2) (it :: s.1, s.2) := by
  refine ⟨by rw [h.items]; rfl, h.code, h.place, h.taken, ?_, h.plan.trans hp, h.shut⟩
  have := h.item
  simp only [List.length_cons]
  rw [this]
  show q.item + 1 + (s.1.length : Int) = p.item + ((s.1.length + 1 : Nat) : Int)
  omega
end Go.Proofs.Ytnilogameaaooaa.Rdr
/- A text's bytes and its padding, to the plain reader. -/
namespace Go.Proofs.Ytnilogameaaooaa.Rdr
open Go.RowKit Go.Proofs.Ytnilogameaaooaa.Q Go.Proofs.Ytnilogameaaooaa.Tail Go.Proofs.YtnilogameaaooaaW.PrintWords Go.Proofs.YtnilogameaaooaaW.PrintLast Go.Proofs.YtnilogameaaooaaW.PrintMore Go.Proofs.Ytnilogameaaooaa.Bytes
set_option linter.unusedVariables false
set_option linter.unusedSimpArgs false

/-- A reader at the beginning of a text's n bytes, n at least 1. -/
structure Txt (p : Ps) (n : Nat) : Prop where
  body : Body p
  pos : 1 ≤ n
  state : p.state = 1
  need : p.need = (n : Int)
  num : p.num = (n : Int)
  text : p.text = []
  letter : bt p.plan p.item ≠ 105
/-- The same reader otherwise. -/
structure Like (p q : Ps) : Prop where
  code : q.code = p.code
  place : q.place = p.place
  shut : q.shut = p.shut
  plan : q.plan = p.plan
  item : q.item = p.item
  most : q.most = p.most
theorem split_at (r : List Int) (n : Nat) (h1 : 1 ≤ n) (h : n ≤ r.length) : ∃ y, r = r.take (n - 1) ++ y :: r.drop n ∧ r.take n = r.take (n - 1) ++ [y] := by
  have hlt : n - 1 < r.length := by omega
  refine ⟨r[n - 1], ?_, ?_⟩
  · have e := List.drop_eq_getElem_cons hlt
    rw [show n - 1 + 1 = n by omega] at e
    rw [← e, List.take_append_drop]
  · have e : r.take (n - 1 + 1) = r.take (n - 1) ++ r[n - 1]?.toList := List.take_add_one
    rw [show n - 1 + 1 = n by omega, List.getElem?_eq_getElem hlt] at e
    exact e
theorem text_cut {p : Ps} {n : Nat} (h : Txt p n) (r : List Int) (hr : r.length < n) : ∃ q, feed p r = (q, []) ∧ Like p q ∧ q.taken = p.taken + r.length := by
  obtain ⟨_, e⟩ := text_app r p [] h.body h.state (by rw [h.need]; omega)
  rw [List.append_nil] at e
  rw [e]
  exact ⟨_, rfl, ⟨rfl, rfl, rfl, rfl, rfl, rfl⟩, rfl⟩
/-- All the bytes of the text are there: what comes then. -/
theorem text_full {p : Ps} {n : Nat} (h : Txt p n) (r : List Int) (hr : n ≤ r.length) : ∃ q : Ps, feed p r = ((feed (nx q).2 (r.drop n)).1, (nx q).1.toList ++ (feed (nx q).2 (r.drop n)).2) ∧ Like p q ∧ q.taken = p.taken + n ∧ q.text = r.take n ∧ q.state = 1 ∧ q.num = (n : Int) := by
  obtain ⟨y, e1, e2⟩ := split_at r n h.pos hr
  have hl : (r.take (n - 1)).length = n - 1 := by rw [List.length_take]; omega
  obtain ⟨hb, e3⟩ := text_app (r.take (n - 1)) p (y :: r.drop n) h.body h.state (by rw [h.need, hl]; have := h.pos; omega)
  have hn1 : p.need - ((r.take (n - 1)).length : Int) = 1 := by rw [h.need, hl]; have := h.pos; omega
  have e4 := text_done hb h.state hn1 y (r.drop n) rfl
  refine ⟨_, (congrArg (feed p) e1).trans (e3.trans e4), ⟨rfl, rfl, rfl, rfl, rfl, rfl⟩, ?_, ?_, h.state, h.num⟩
  · show p.taken + ((r.take (n - 1)).length : Int) + 1 = p.taken + (n : Int)
    rw [hl]; have := h.pos; omega
  · show (p.text ++ r.take (n - 1)) ++ [y] = r.take n
    rw [h.text, List.nil_append, e2]
theorem padOf_mod (n : Nat) (h : n % 8 ≠ 0) : ((padOf n : Nat) : Int) = 8 - (n : Int) % 8 := by unfold padOf; omega
theorem padOf_zero (n : Nat) (h : n % 8 = 0) : padOf n = 0 := by unfold padOf; omega
theorem text_bad {p : Ps} {n : Nat} (h : Txt p n) (r : List Int) {j : Nat} (hj : firstNZ ((r.drop n).take (padOf n)) = some j) :
    ∃ q, feed p r = (q, []) ∧ q.code = 7 ∧ q.place = p.taken + n + j ∧ q.taken = p.taken + n + j ∧ q.item = p.item ∧ q.plan = p.plan ∧ q.shut = p.shut := by
  obtain ⟨c, t, hc, et⟩ := firstNZ_some _ j hj
  have hlen : j < (r.drop n).length ∧ j < padOf n := by
    have := congrArg List.length et
    simp only [List.length_take, List.length_append, List.length_replicate, List.length_cons] at this
    omega
  have hr : n ≤ r.length := by have := hlen.1; rw [List.length_drop] at this; omega
  have hm : n % 8 ≠ 0 := fun q => by have := padOf_zero n q; omega
  obtain ⟨q, e1, hk, ht, hx, hs, hnum⟩ := text_full h r hr
  have e2 : nx q = (none, { q with state := 2, need := 8 - q.num % 8 }) := by
    unfold nx
    rw [if_neg (by rw [hk.plan, hk.item]; exact h.letter), if_neg (by omega), if_pos ⟨hs, by rw [hnum]; omega⟩]
  rw [e2] at e1
  have hneed : 8 - q.num % 8 = ((padOf n : Nat) : Int) := by rw [hnum, padOf_mod n hm]
  have hb : Body { q with state := 2, need := 8 - q.num % 8 } := ⟨by rw [← h.body.code]; exact hk.code, by rw [← h.body.shut]; exact hk.shut, by show q.item < (q.plan.size : Int); rw [hk.item, hk.plan]; exact h.body.item, by show 1 ≤ 8 - q.num % 8; omega⟩
  have es : r.drop n = List.replicate j 0 ++ (c :: (t ++ (r.drop n).drop (padOf n))) := by
    refine (List.take_append_drop (padOf n) (r.drop n)).symm.trans ?_
    rw [et, List.append_assoc, List.cons_append]
  obtain ⟨hb2, e3⟩ := pad_app j _ (c :: (t ++ (r.drop n).drop (padOf n))) hb rfl (by show (j : Int) < 8 - q.num % 8; rw [hneed]; omega)
  have e4 := pad_bad hb2 rfl hc (t ++ (r.drop n).drop (padOf n))
  have e5 : feed { q with state := 2, need := 8 - q.num % 8 } (r.drop n) = _ := (congrArg (feed _) es).trans (e3.trans e4)
  simp only at e1
  rw [e5] at e1
  refine ⟨_, e1, rfl, ?_, ?_, hk.item, hk.plan, hk.shut⟩
  · show q.taken + (j : Int) = _
    rw [ht]
  · show q.taken + (j : Int) = _
    rw [ht]
/-- The padding is not whole yet, or the text is not. -/
theorem text_short {p : Ps} {n : Nat} (h : Txt p n) (r : List Int) (hz : firstNZ ((r.drop n).take (padOf n)) = none) (hr : r.length < n + padOf n) :
    ∃ q, feed p r = (q, []) ∧ Like p q ∧ q.taken = p.taken + r.length := by
  by_cases hn : r.length < n
  · exact text_cut h r hn
  · have hr2 : n ≤ r.length := by omega
    have hm : n % 8 ≠ 0 := fun q => by have := padOf_zero n q; omega
    obtain ⟨q, e1, hk, ht, hx, hs, hnum⟩ := text_full h r hr2
    have e2 : nx q = (none, { q with state := 2, need := 8 - q.num % 8 }) := by
      unfold nx
      rw [if_neg (by rw [hk.plan, hk.item]; exact h.letter), if_neg (by omega), if_pos ⟨hs, by rw [hnum]; omega⟩]
    rw [e2] at e1
    have hneed : 8 - q.num % 8 = ((padOf n : Nat) : Int) := by rw [hnum, padOf_mod n hm]
    have hb : Body { q with state := 2, need := 8 - q.num % 8 } := ⟨by rw [← h.body.code]; exact hk.code, by rw [← h.body.shut]; exact hk.shut, by show q.item < (q.plan.size : Int); rw [hk.item, hk.plan]; exact h.body.item, by show 1 ≤ 8 - q.num % 8; omega⟩
    have hd : (r.drop n).length < padOf n := by rw [List.length_drop]; omega
    rw [List.take_of_length_le (by omega)] at hz
    have es := firstNZ_none _ hz
    obtain ⟨_, e3⟩ := pad_app (r.drop n).length _ [] hb rfl (by show (((r.drop n).length : Nat) : Int) < 8 - q.num % 8; rw [hneed]; omega)
    rw [List.append_nil, ← es] at e3
    simp only at e1
    rw [e3] at e1
    refine ⟨_, e1, ⟨hk.code, hk.place, hk.shut, hk.plan, hk.item, hk.most⟩, ?_⟩
    show q.taken + (((r.drop n).length : Nat) : Int) = _
    rw [ht, List.length_drop]
    omega
/-- The text and its padding are whole. -/
theorem text_whole {p : Ps} {n : Nat} (h : Txt p n) (r : List Int) (hz : firstNZ ((r.drop n).take (padOf n)) = none) (hr : n + padOf n ≤ r.length) :
    ∃ q : Ps, feed p r = ((feed q.next (r.drop (n + padOf n))).1, (some (⟨false, 0, strOfNums (r.take n)⟩ : S55)).toList ++ (feed q.next (r.drop (n + padOf n))).2) ∧ Like p q ∧ q.taken = p.taken + n + padOf n := by
  obtain ⟨q, e1, hk, ht, hx, hs, hnum⟩ := text_full h r (by omega)
  by_cases hm : n % 8 = 0
  · have e2 : nx q = (some ⟨false, 0, strOfNums q.text⟩, q.next) := by
      unfold nx
      rw [if_neg (by rw [hk.plan, hk.item]; exact h.letter), if_neg (by omega), if_neg (fun z => z.2 (by rw [hnum]; omega))]
    rw [e2, hx] at e1
    refine ⟨q, ?_, hk, by rw [ht, padOf_zero n hm]; simp⟩
    rw [padOf_zero n hm, Nat.add_zero]
    exact e1
  · have e2 : nx q = (none, { q with state := 2, need := 8 - q.num % 8 }) := by
      unfold nx
      rw [if_neg (by rw [hk.plan, hk.item]; exact h.letter), if_neg (by omega), if_pos ⟨hs, by rw [hnum]; omega⟩]
    rw [e2] at e1
    have hneed : 8 - q.num % 8 = ((padOf n : Nat) : Int) := by rw [hnum, padOf_mod n hm]
    have hb : Body { q with state := 2, need := 8 - q.num % 8 } := ⟨by rw [← h.body.code]; exact hk.code, by rw [← h.body.shut]; exact hk.shut, by show q.item < (q.plan.size : Int); rw [hk.item, hk.plan]; exact h.body.item, by show 1 ≤ 8 - q.num % 8; omega⟩
    have hp : 1 ≤ padOf n := by unfold padOf; omega
    have hlt : ((r.drop n).take (padOf n)).length = padOf n := by rw [List.length_take, List.length_drop]; omega
    have es := firstNZ_none _ hz
    rw [hlt] at es
    have ed : r.drop n = List.replicate (padOf n - 1) 0 ++ (0 :: r.drop (n + padOf n)) := by
      refine (List.take_append_drop (padOf n) (r.drop n)).symm.trans ?_
      rw [es, List.drop_drop]
      have : List.replicate (padOf n) (0 : Int) = List.replicate (padOf n - 1) 0 ++ [0] := by
        rw [← List.replicate_succ', show padOf n - 1 + 1 = padOf n by omega]
      rw [this, List.append_assoc]
      rfl
    obtain ⟨hb2, e3⟩ := pad_app (padOf n - 1) _ (0 :: r.drop (n + padOf n)) hb rfl (by show ((padOf n - 1 : Nat) : Int) < 8 - q.num % 8; rw [hneed]; omega)
    obtain ⟨u, hu⟩ : ∃ u : Ps, u = { q with state := 2, need := 0, taken := q.taken + ((padOf n - 1 : Nat) : Int) + 1 } := ⟨_, rfl⟩
    have e4 := pad_done hb2 rfl (by show 8 - q.num % 8 - ((padOf n - 1 : Nat) : Int) = 1; rw [hneed]; omega) (r.drop (n + padOf n)) (q := u) hu
    have e5 : feed { q with state := 2, need := 8 - q.num % 8 } (r.drop n) = _ := (congrArg (feed _) ed).trans (e3.trans e4)
    simp only at e1
    rw [e5] at e1
    have e6 : ∀ (u : Ps), u.plan = q.plan → u.item = q.item → u.state = 2 → u.text = q.text → nx u = (some ⟨false, 0, strOfNums q.text⟩, u.next) := by
      intro u u1 u2 u3 u4
      unfold nx
      rw [if_neg (by rw [u1, u2, hk.plan, hk.item]; exact h.letter), if_neg (by omega), if_neg (by omega), u4]
    rw [e6 u (by rw [hu]) (by rw [hu]) (by rw [hu]) (by rw [hu]), hx] at e1
    refine ⟨u, e1, ⟨by rw [hu]; exact hk.code, by rw [hu]; exact hk.place, by rw [hu]; exact hk.shut, by rw [hu]; exact hk.plan, by rw [hu]; exact hk.item, by rw [hu]; exact hk.most⟩, ?_⟩
    rw [hu]
    show q.taken + ((padOf n - 1 : Nat) : Int) + 1 = _
    rw [ht]
    omega
end Go.Proofs.Ytnilogameaaooaa.Rdr
/- What a whole text is to the plain reader: feed is parse. -/
namespace Go.Proofs.Ytnilogameaaooaa.Rdr
open Go.RowKit Go.Proofs.Ytnilogameaaooaa.Q Go.Proofs.Ytnilogameaaooaa.Tail Go.Proofs.YtnilogameaaooaaW.PrintWords Go.Proofs.YtnilogameaaooaaW.PrintLast Go.Proofs.YtnilogameaaooaaW.PrintMore Go.Proofs.Ytnilogameaaooaa.Bytes
set_option linter.unusedVariables false
set_option linter.unusedSimpArgs false

theorem split8 (b : List Int) (h : 8 ≤ b.length) : ∃ xs y rest, xs.length = 7 ∧ b = xs ++ y :: rest ∧ b.take 8 = xs ++ [y] ∧ b.drop 8 = rest := by
  obtain ⟨y, e1, e2⟩ := split_at b 8 (by omega) h
  exact ⟨b.take 7, y, b.drop 8, by rw [List.length_take]; omega, e1, e2, rfl⟩
theorem answers_of_next {p q : Ps} {it : S55} {b r : List Int} {s : List S55 × Int × Int × Int} (e : feed p b = ((feed q.next r).1, (some it).toList ++ (feed q.next r).2)) (h : Answers q.next (feed q.next r) s) (hi : q.item = p.item) (hp : q.plan = p.plan) : Answers p (feed p b) (it :: s.1, s.2) := by
  rw [e]
  exact answers_cons h hi hp
theorem feed_parse : ∀ (l : List UInt8) (p : Ps) (b : List Int), Fresh p → 0 ≤ p.item → (bs p.plan).drop p.item.toNat = l → p.item ≤ (p.plan.size : Int) → (∀ c ∈ l, c = 105 ∨ c = 116) → 0 ≤ p.most → Byts b → Answers p (feed p b) (parse p.most l b p.taken)
  | [], p, b, hF, h0, hl, hi, _, _, _ => by
    have hit : p.item = (p.plan.size : Int) := by
      have := congrArg List.length hl
      rw [List.length_drop, ← size_bs] at this
      simp at this
      omega
    cases b with
    | nil =>
      have e : parse p.most [] [] p.taken = ([], 0, 0, p.taken) := by simp only [parse]; rfl
      rw [e]
      exact ⟨rfl, hF.code, hF.place, rfl, by show p.item = p.item + ((0 : Nat) : Int); omega, rfl, hF.shut⟩
    | cons c cs =>
      have e : parse p.most [] (c :: cs) p.taken = ([], 5, p.taken, p.taken) := by simp only [parse]; rw [if_neg (by simp)]
      rw [e, feed_trail (stop_of hF.code hF.shut) hit]
      exact ⟨rfl, rfl, rfl, rfl, by show p.item = p.item + ((0 : Nat) : Int); omega, rfl, hF.shut⟩
  | c :: l, p, b, hF, h0, hl, hi, hlet, hm, hb => by
    have hlen : p.item.toNat < (bs p.plan).length := by
      have := congrArg List.length hl
      rw [List.length_drop, List.length_cons] at this
      omega
    have hit : p.item < (p.plan.size : Int) := by rw [← size_bs] at hlen; omega
    obtain ⟨k, hk⟩ := Int.eq_ofNat_of_zero_le h0
    have hks : k < p.plan.size := by omega
    have hcd := List.drop_eq_getElem_cons hlen
    rw [hl] at hcd
    have hce : c = (bs p.plan)[p.item.toNat] := (List.cons.inj hcd).1
    have hle : l = (bs p.plan).drop (p.item.toNat + 1) := (List.cons.inj hcd).2
    have hbt : bt p.plan p.item = (c.toNat : Int) := by
      rw [bt_bs, List.getD_eq_getElem?_getD, List.getElem?_eq_getElem hlen, ← hce]
      rfl
    have hd : Head p := ⟨hF.code, hF.shut, hit, hF.state, by rw [hF.need]; omega, by rw [hF.num, hF.need]; decide⟩
    have hih : ∀ (q : Ps) (r : List Int), q.code = 0 → q.place = 0 → q.shut = false → q.item = p.item → q.plan = p.plan → q.most = p.most → Byts r → Answers q.next (feed q.next r) (parse p.most l r q.taken) := by
      intro q r q1 q2 q3 q4 q5 q6 q7
      have hdr : (bs q.next.plan).drop q.next.item.toNat = l := by
        show (bs q.plan).drop (q.item + 1).toNat = l
        rw [q5, q4, hle]
        congr 1
        omega
      have := feed_parse l q.next r (fresh_next q1 q2 q3) (by show 0 ≤ q.item + 1; omega) hdr (by show q.item + 1 ≤ (q.plan.size : Int); rw [q5]; omega) (fun d hd => hlet d (List.mem_cons_of_mem _ hd)) (by show 0 ≤ q.most; omega) q7
      have e1 : q.next.most = p.most := q6
      have e2 : q.next.taken = q.taken := rfl
      rw [e1, e2] at this
      exact this
    by_cases h8 : b.length < 8
    · have e : parse p.most (c :: l) b p.taken = ([], 0, 0, p.taken + b.length) := by simp only [parse]; rw [if_pos h8]
      obtain ⟨_, e1⟩ := head_app b p [] hd hb (by rw [hF.need]; omega)
      rw [List.append_nil] at e1
      rw [e, e1]
      exact ⟨rfl, hF.code, hF.place, rfl, by show p.item = p.item + ((0 : Nat) : Int); omega, rfl, hF.shut⟩
    · obtain ⟨xs, y, rest, hx7, hbe, ht8, hd8⟩ := split8 b (by omega)
      have hby := hb
      rw [hbe] at hby
      obtain ⟨hbx, hbyr⟩ := hby.app
      obtain ⟨hy, hbr⟩ := hbyr.cons
      obtain ⟨hd1, e1⟩ := head_app xs p (y :: rest) hd hbx (by rw [hF.need, hx7]; omega)
      rw [← hbe] at e1
      obtain ⟨p1, hp1⟩ : ∃ p1 : Ps, p1 = { p with num := p.num + 256 ^ (8 - p.need).toNat * val xs, need := p.need - xs.length, taken := p.taken + xs.length } := ⟨_, rfl⟩
      rw [← hp1] at hd1 e1
      have n1 : p1.need = 1 := by rw [hp1]; show p.need - (xs.length : Int) = 1; rw [hF.need, hx7]; rfl
      have hpw : (256 : Int) ^ (8 - (8 : Int)).toNat = 1 := by decide
      have hN : p1.num + 256 ^ (8 - p1.need).toNat * y = val (b.take 8) := by
        rw [n1, hp1, ht8, val_app, hx7]
        show p.num + 256 ^ (8 - p.need).toNat * val xs + 256 ^ (8 - (1 : Int)).toNat * y = _
        rw [hF.num, hF.need, hpw]
        have : (8 - (1 : Int)).toNat = 7 := rfl
        rw [this]
        simp [val]
      have hV0 : 0 ≤ val (b.take 8) := val_nonneg _ (fun x hx => hb x (List.mem_of_mem_take hx))
      simp only [parse]
      rw [if_neg h8]
      generalize val (b.take 8) = V at hN hV0 ⊢
      rw [hd8]
      have f1 : p1.code = 0 := by rw [hp1]; exact hF.code
      have f2 : p1.place = 0 := by rw [hp1]; exact hF.place
      have f3 : p1.shut = false := by rw [hp1]; exact hF.shut
      have f4 : p1.item = p.item := by rw [hp1]
      have f5 : p1.plan = p.plan := by rw [hp1]
      have f6 : p1.most = p.most := by rw [hp1]
      have f7 : p1.taken = p.taken + 7 := by rw [hp1]; show p.taken + (xs.length : Int) = _; rw [hx7]; rfl
      have f8 : p1.start = p.taken := by rw [hp1]; exact hF.start
      have f9 : p1.text = [] := by rw [hp1]; exact hF.text
      have f10 : p1.state = 0 := by rw [hp1]; exact hF.state
      obtain ⟨q, hq⟩ : ∃ q : Ps, q = { p1 with num := p1.num + 256 ^ (8 - p1.need).toNat * y, need := 0, taken := p1.taken + 1 } := ⟨_, rfl⟩
      have g1 : q.code = 0 := by rw [hq]; exact f1
      have g2 : q.place = 0 := by rw [hq]; exact f2
      have g3 : q.shut = false := by rw [hq]; exact f3
      have g4 : q.item = p.item := by rw [hq]; exact f4
      have g5 : q.plan = p.plan := by rw [hq]; exact f5
      have g6 : q.most = p.most := by rw [hq]; exact f6
      have g7 : q.taken = p.taken + 8 := by rw [hq]; show p1.taken + 1 = _; omega
      have g8 : q.num = V := by rw [hq]; exact hN
      have g9 : q.text = [] := by rw [hq]; exact f9
      have g10 : q.state = 0 := by rw [hq]; exact f10
      have gb : bt q.plan q.item = (c.toNat : Int) := by rw [g5, g4]; exact hbt
      by_cases hc5 : c = 105
      · rw [if_pos hc5]
        have hb5 : bt q.plan q.item = 105 := by rw [gb, hc5]; rfl
        have e2 := head_done hd1 n1 hy (fun z => by have := z.1; rw [f5, f4, hbt, hc5] at this; exact absurd this (by decide)) rest hq
        have e3 : nx q = (some ⟨true, V, ⟨#[]⟩⟩, q.next) := by unfold nx; rw [if_pos hb5, g8]
        rw [e3] at e2
        have := hih q rest g1 g2 g3 g4 g5 g6 hbr
        rw [g7] at this
        exact answers_of_next (e1.trans e2) this g4 g5
      · rw [if_neg hc5]
        have hc6 : c = 116 := (hlet c List.mem_cons_self).resolve_left hc5
        have hb6 : bt q.plan q.item ≠ 105 := by rw [gb, hc6]; decide
        have hb7 : bt p1.plan p1.item = 116 := by rw [f5, f4, hbt, hc6]; rfl
        by_cases hlong : p.most < V
        · rw [if_pos hlong]
          have e2 := head_long hd1 n1 hy hb7 (by rw [f6, hN]; exact hlong) rest
          rw [e1.trans e2]
          exact ⟨rfl, rfl, f8, f7, by show p1.item = p.item + ((0 : Nat) : Int); omega, f5, f3⟩
        · rw [if_neg hlong]
          have e2 := head_done hd1 n1 hy (fun z => hlong (by have := z.2; rw [f6, hN] at this; exact this)) rest hq
          obtain ⟨n, rfl⟩ := Int.eq_ofNat_of_zero_le hV0
          rw [Int.toNat_natCast]
          by_cases hn0 : n = 0
          · subst hn0
            have hz : padOf 0 = 0 := rfl
            have e3 : nx q = (some ⟨false, 0, strOfNums []⟩, q.next) := by
              unfold nx
              rw [if_neg hb6, if_neg (by rw [g8]; intro z; exact absurd z.2 (by simp)), if_neg (by rw [g10]; intro z; exact absurd z.1 (by decide)), g9]
            rw [e3] at e2
            have := hih q rest g1 g2 g3 g4 g5 g6 hbr
            rw [g7] at this
            rw [hz]
            simp only [List.take_zero, firstNZ, List.drop_zero, Nat.add_zero, Nat.not_lt_zero, if_false]
            have h3 := answers_of_next (e1.trans e2) this g4 g5
            have z2 : p.taken + 8 + ((0 : Nat) : Int) + ((0 : Nat) : Int) = p.taken + 8 := by omega
            rw [z2]
            exact h3
          · have e3 : nx q = (none, { q with state := 1, need := q.num }) := by
              unfold nx
              rw [if_neg hb6, if_pos ⟨g10, by rw [g8]; omega⟩]
            rw [e3] at e2
            obtain ⟨u, hu⟩ : ∃ u : Ps, u = { q with state := 1, need := q.num } := ⟨_, rfl⟩
            rw [← hu] at e2
            have e4 : feed p b = feed u rest := e1.trans e2
            have hT : Txt u n := ⟨⟨by rw [hu]; exact g1, by rw [hu]; exact g3, by rw [hu]; show q.item < (q.plan.size : Int); rw [g4, g5]; exact hit, by rw [hu]; show 1 ≤ q.num; rw [g8]; omega⟩, by omega, by rw [hu], by rw [hu]; exact g8, by rw [hu]; exact g8, by rw [hu]; exact g9, by rw [hu]; exact hb6⟩
            have u7 : u.taken = p.taken + 8 := by rw [hu]; exact g7
            have u4 : u.item = p.item := by rw [hu]; exact g4
            have u5 : u.plan = p.plan := by rw [hu]; exact g5
            have u6 : u.most = p.most := by rw [hu]; exact g6
            have u1 : u.code = 0 := by rw [hu]; exact g1
            have u2 : u.place = 0 := by rw [hu]; exact g2
            have u3 : u.shut = false := by rw [hu]; exact g3
            cases hz : firstNZ ((rest.drop n).take (padOf n)) with
            | some j =>
              obtain ⟨s, s1, s2, s3, s4, s5, s6, s7⟩ := text_bad hT rest hz
              rw [e4, s1]
              exact ⟨rfl, s2, by rw [s3, u7], by rw [s4, u7], by rw [s5, u4]; show p.item = p.item + ((0 : Nat) : Int); omega, by rw [s6, u5], by rw [s7, u3]⟩
            | none =>
              by_cases hsh : rest.length < n + padOf n
              · obtain ⟨s, s1, sk, s2⟩ := text_short hT rest hz hsh
                simp only
                rw [if_pos hsh, e4, s1]
                have hbl : b.length = 8 + rest.length := by rw [hbe, List.length_append, List.length_cons, hx7]; omega
                exact ⟨rfl, by rw [sk.code, u1], by rw [sk.place, u2], by rw [s2, u7]; show _ = p.taken + (b.length : Int); rw [hbl]; omega, by rw [sk.item, u4]; show p.item = p.item + ((0 : Nat) : Int); omega, by rw [sk.plan, u5], by rw [sk.shut, u3]⟩
              · obtain ⟨s, s1, sk, s2⟩ := text_whole hT rest hz (by omega)
                simp only
                rw [if_neg hsh]
                have := hih s (rest.drop (n + padOf n)) (by rw [sk.code, u1]) (by rw [sk.place, u2]) (by rw [sk.shut, u3]) (by rw [sk.item, u4]) (by rw [sk.plan, u5]) (by rw [sk.most, u6]) (fun x hx => hbr x (List.mem_of_mem_drop hx))
                rw [s2, u7] at this
                exact answers_of_next (e4.trans s1) this (by rw [sk.item, u4]) (by rw [sk.plan, u5])
end Go.Proofs.Ytnilogameaaooaa.Rdr
/- depotref03.Num: the number in eight bytes. -/
set_option linter.unusedVariables false
set_option linter.unusedSimpArgs false
namespace Go.Proofs.Ytnilogameaaooaa.Pure
open Go.RowKit Go.Proofs.Ytnilogameaaooaa.Q Go.Proofs.Ytnilogameaaooaa.Rdr Go.Proofs.Ytnilogameaaooaa.Tail Go.Proofs.YtnilogameaaooaaW.PrintWords Go.Proofs.YtnilogameaaooaaW.PrintLast Go.Proofs.YtnilogameaaooaaW.PrintMore Go.Proofs.Ytnilogameaaooaa.Bytes Go.Proofs.Ytnilogameaaooaa.Evs

theorem val_lt : ∀ (l : List Int), Byts l → val l < 256 ^ l.length
  | [], _ => by simp [val]
  | c :: l, h => by
    have h1 := val_lt l h.cons.2
    have h2 := h.cons.1.2
    simp only [val, List.length_cons, Int.pow_succ]
    omega
theorem byts_text (s : ByteArray) : Byts (numsOf s) := numsOf_range s
theorem byts_drop {l : List Int} (h : Byts l) (n : Nat) : Byts (l.drop n) := fun x hx => h x (List.mem_of_mem_drop hx)
theorem byts_take {l : List Int} (h : Byts l) (n : Nat) : Byts (l.take n) := fun x hx => h x (List.mem_of_mem_take hx)
theorem bt_nums (s : ByteArray) (i : Nat) (h : i < s.size) : (numsOf s)[i]? = some (bt s (i : Int)) := by
  rw [bt_get s i h]
  simp only [numsOf, List.getElem?_map, Array.getElem?_toList]
  rw [Array.getElem?_eq_getElem (show i < s.data.size from h)]
  rfl
theorem pow8 (n : Nat) (h : n ≤ 8) : (256 : Int) ^ n ≤ 18446744073709551616 := by
  have h1 : (256 : Nat) ^ n ≤ 256 ^ 8 := Nat.pow_le_pow_right (by omega) h
  have h2 : (256 : Nat) ^ 8 = 18446744073709551616 := by decide
  have h3 : ((256 : Int) ^ n) = ((256 ^ n : Nat) : Int) := by simp
  rw [h3]
  omega
theorem num_step (text : ByteArray) (a : Nat) (h : a + 8 ≤ text.size) (hs : text.size ≤ 1099511627776) : ∀ j : Nat, j ≤ 8 →
    Ev (fun k => depotref03_Num.l0 k text (a : Int) (val ((((numsOf text).drop a).take 8).drop j)) ((j : Int) - 1)) (val (((numsOf text).drop a).take 8)) := by
  intro j
  induction j with
  | zero =>
    intro _
    apply succ
    simp only [depotref03_Num.l0]
    exact neg (by omega) (now (by rw [List.drop_zero]))
  | succ j ih =>
    intro hj
    have ih := ih (by omega)
    have hl8 : (((numsOf text).drop a).take 8).length = 8 := by rw [List.length_take, List.length_drop, numsOf_len]; omega
    have hB : Byts (((numsOf text).drop a).take 8) := byts_take (byts_drop (byts_text text) a) 8
    have hx : (((numsOf text).drop a).take 8)[j]? = some (bt text ((a + j : Nat) : Int)) := by
      rw [List.getElem?_take, if_pos (by omega), List.getElem?_drop]
      exact bt_nums text (a + j) (by omega)
    obtain ⟨hj2, hx2⟩ := List.getElem?_eq_some_iff.1 hx
    have hd := List.drop_eq_getElem_cons hj2
    rw [hx2] at hd
    have hv : val ((((numsOf text).drop a).take 8).drop j) = bt text ((a + j : Nat) : Int) + 256 * val ((((numsOf text).drop a).take 8).drop (j + 1)) := by rw [hd]; rfl
    have hb1 := val_nonneg _ (byts_drop hB (j + 1))
    have hb2 := val_lt _ (byts_drop hB j)
    have hb3 := hB _ (List.mem_of_getElem? hx)
    have hpow : (256 : Int) ^ (((((numsOf text).drop a).take 8).drop j).length) ≤ 18446744073709551616 := by
      rw [List.length_drop, hl8]
      exact pow8 _ (Nat.sub_le _ _)
    clear hd hx hx2
    generalize val ((((numsOf text).drop a).take 8).drop (j + 1)) = V at hv hb1 ⊢
    generalize hb : bt text ((a + j : Nat) : Int) = c at hv hb3
    rw [hv] at hb2
    have hz := Int.lt_of_lt_of_le hb2 hpow
    have HB2 := Aside0.mk hb
    have HV := Aside0.mk hv
    clear hb hv hpow hb2 hB
    apply succ
    simp only [depotref03_Num.l0]
    have e0 : ((j + 1 : Nat) : Int) - 1 = (j : Int) := by omega
    rw [e0]
    have e2 : wrap64 ((a : Int) + (j : Int)) = ((a + j : Nat) : Int) := by rw [w64 (by omega) (by omega)]; omega
    rw [e2, HB2.out]
    refine pos (by omega) (pos (by omega) (pos (by omega) ?_))
    have u : ∀ z : Int, 0 ≤ z → z < 18446744073709551616 → IntKind.u64.wrap z = z := fun z z0 z1 => by
      have : IntKind.u64.wrap z = z % 18446744073709551616 := rfl
      omega
    rw [u (V * 256) (by omega) (by omega), u c (by omega) (by omega), u _ (by omega) (by omega), w64 (x := (j : Int) - 1) (by omega) (by omega), show V * 256 + c = c + 256 * V by omega, ← HV.out]
    exact ih
theorem num_ev (text : ByteArray) (a : Nat) (h : a + 8 ≤ text.size) (hs : text.size ≤ 1099511627776) : Ev (fun k => depotref03_Num.f k text (a : Int)) (val (((numsOf text).drop a).take 8)) := by
  have := num_step text a h hs 8 (Nat.le_refl _)
  rw [List.drop_of_length_le (by rw [List.length_take]; omega)] at this
  exact this
end Go.Proofs.Ytnilogameaaooaa.Pure
/- depotref03.OneText: one framed text, plain. -/
set_option linter.unusedVariables false
set_option linter.unusedSimpArgs false
namespace Go.Proofs.Ytnilogameaaooaa.Pure
open Go.RowKit Go.Proofs.Ytnilogameaaooaa.Q Go.Proofs.Ytnilogameaaooaa.Rdr Go.Proofs.Ytnilogameaaooaa.Tail Go.Proofs.YtnilogameaaooaaW.PrintWords Go.Proofs.YtnilogameaaooaaW.PrintLast Go.Proofs.YtnilogameaaooaaW.PrintMore Go.Proofs.Ytnilogameaaooaa.Bytes Go.Proofs.Ytnilogameaaooaa.Evs

/-- What OneText answers behind the head: the scan of the padding, from place n + e on. -/
def scanR (text : ByteArray) (a n : Nat) (z : Option Nat) (e : Nat) : ByteArray × Int × Int × Int × Int :=
  match z with
  | some j => (⟨#[]⟩, -1, 7, ((a + 8 + n + e + j : Nat) : Int), ((a + 8 + n + e + j : Nat) : Int))
  | none => if text.size - a - 8 < n + padOf n then (⟨#[]⟩, -1, 0, 0, (text.size : Int)) else (text.extract (a + 8) (a + 8 + n), ((a + 8 + n + padOf n : Nat) : Int), 0, 0, 0)
theorem padI (n : Nat) : Int.tmod (8 - Int.tmod (n : Int) 8) 8 = ((padOf n : Nat) : Int) := by
  have h1 : Int.tmod (n : Int) 8 = (n : Int) % 8 := Int.tmod_eq_emod_of_nonneg (by omega)
  rw [h1, Int.tmod_eq_emod_of_nonneg (by omega)]
  unfold padOf
  omega
theorem padW (n : Nat) (h : n ≤ 9223372036854775807) : Int.tmod (wrap64 (8 - Int.tmod (n : Int) 8)) 8 = ((padOf n : Nat) : Int) := by
  have h1 : Int.tmod (n : Int) 8 = (n : Int) % 8 := Int.tmod_eq_emod_of_nonneg (by omega)
  rw [w64 (by rw [h1]; omega) (by rw [h1]; omega)]
  exact padI n
theorem pad8 (n : Nat) : padOf n < 8 := by unfold padOf; omega
theorem scan_in (text : ByteArray) (a n : Nat) (h : a + 8 ≤ text.size) (hs : text.size ≤ 1099511627776) (hn : n ≤ text.size - a - 8) : ∀ (d e : Nat), e + d = padOf n →
    Ev (fun k => depotref03_OneText.l0 k text (a : Int) (n : Int) ((text.size - a - 8 : Nat) : Int) ((n + e : Nat) : Int)) (scanR text a n (firstNZ ((((numsOf text).drop (a + 8 + n)).drop e).take d)) e) := by
  intro d
  have hp := pad8 n
  have hpw := padW n (by omega)
  induction d with
  | zero =>
    intro e he
    apply succ
    simp only [depotref03_OneText.l0]
    rw [hpw, w64 (x := (n : Int) + ((padOf n : Nat) : Int)) (by omega) (by omega)]
    refine neg (by omega) (neg (by omega) ?_)
    rw [w64 (x := ((text.size - a - 8 : Nat) : Int) - (n : Int)) (by omega) (by omega), w64 (x := (a : Int) + 8) (by omega) (by omega), w64 (x := (a : Int) + 8 + (n : Int)) (by omega) (by omega)]
    rw [List.take_zero]
    simp only [firstNZ, scanR]
    by_cases hsh : text.size - a - 8 < n + padOf n
    · rw [if_pos hsh]
      exact pos (by omega) (now rfl)
    · rw [if_neg hsh]
      refine neg (by omega) (pos (by omega) (pos (by omega) (pos (by omega) (now ?_))))
      rw [w64 (by omega) (by omega)]
      have e1 : ((a : Int) + 8).toNat = a + 8 := by omega
      have e2 : ((a : Int) + 8 + (n : Int)).toNat = a + 8 + n := by omega
      rw [e1, e2]
      congr 3
  | succ d ih =>
    intro e he
    have ih := ih (e + 1) (by omega)
    have e1 : ((n + e : Nat) : Int) + 1 = ((n + (e + 1) : Nat) : Int) := by omega
    apply succ
    simp only [depotref03_OneText.l0]
    rw [hpw, w64 (x := (n : Int) + ((padOf n : Nat) : Int)) (by omega) (by omega)]
    refine pos (by omega) ?_
    rw [w64 (x := (a : Int) + 8) (by omega) (by omega), w64 (x := (a : Int) + 8 + ((n + e : Nat) : Int)) (by omega) (by omega), w64 (x := ((n + e : Nat) : Int) + 1) (by omega) (by omega), e1]
    by_cases hi : n + e < text.size - a - 8
    · refine pos (by omega) (pos (by omega) (pos (by omega) ?_))
      have e2 : (a : Int) + 8 + ((n + e : Nat) : Int) = ((a + 8 + n + e : Nat) : Int) := by omega
      rw [e2]
      have hlt : a + 8 + n + e < text.size := by omega
      have hx := bt_nums text (a + 8 + n + e) hlt
      obtain ⟨hl, hx2⟩ := List.getElem?_eq_some_iff.1 hx
      have hd : ((numsOf text).drop (a + 8 + n)).drop e = bt text ((a + 8 + n + e : Nat) : Int) :: ((numsOf text).drop (a + 8 + n)).drop (e + 1) := by
        rw [List.drop_drop, List.drop_drop, List.drop_eq_getElem_cons hl, hx2]
        rfl
      rw [hd, List.take_succ_cons]
      simp only [firstNZ]
      by_cases hz : bt text ((a + 8 + n + e : Nat) : Int) = 0
      · refine pos hz ?_
        rw [if_pos hz]
        refine same ?_ ih
        cases firstNZ ((((numsOf text).drop (a + 8 + n)).drop (e + 1)).take d) with
        | none => rfl
        | some j =>
          simp only [Option.map_some, scanR]
          have : a + 8 + n + e + (j + 1) = a + 8 + n + (e + 1) + j := by clear hx hx2 hd hz; omega
          rw [this]
      · refine neg hz ?_
        rw [if_neg hz]
        exact now rfl
    · refine neg (by omega) ?_
      refine same ?_ ih
      have hd : ∀ m, e ≤ m → ((numsOf text).drop (a + 8 + n)).drop m = [] := fun m hm => by
        rw [List.drop_drop]
        exact List.drop_of_length_le (by rw [numsOf_len]; omega)
      rw [hd e (Nat.le_refl _), hd (e + 1) (Nat.le_succ _)]
      simp only [List.take_nil, firstNZ, scanR]
/-- The text is longer than what is there. -/
theorem scan_out (text : ByteArray) (a n : Nat) (h : a + 8 ≤ text.size) (hs : text.size ≤ 1099511627776) (hn : text.size - a - 8 < n) (hm : n ≤ 9223372036854775807) : ∀ (d e : Nat), e + d = padOf n →
    Ev (fun k => depotref03_OneText.l0 k text (a : Int) (n : Int) ((text.size - a - 8 : Nat) : Int) ((n + e : Nat) : Int)) ((⟨#[]⟩ : ByteArray), -1, 0, 0, (text.size : Int)) ∨ 9223372036854775807 < n + padOf n := by
  intro d
  have hp := pad8 n
  have hpw := padW n hm
  by_cases hov : 9223372036854775807 < n + padOf n
  · exact fun _ _ => .inr hov
  · induction d with
    | zero =>
      intro e he
      left
      apply succ
      simp only [depotref03_OneText.l0]
      rw [hpw, w64 (x := (n : Int) + ((padOf n : Nat) : Int)) (by omega) (by omega)]
      exact neg (by omega) (pos (by omega) (now rfl))
    | succ d ih =>
      intro e he
      have ih := (ih (e + 1) (by omega)).resolve_right hov
      have e1 : ((n + e : Nat) : Int) + 1 = ((n + (e + 1) : Nat) : Int) := by omega
      left
      apply succ
      simp only [depotref03_OneText.l0]
      rw [hpw, w64 (x := (n : Int) + ((padOf n : Nat) : Int)) (by omega) (by omega)]
      refine pos (by omega) (neg (by omega) ?_)
      rw [w64 (x := ((n + e : Nat) : Int) + 1) (by omega) (by omega), e1]
      exact ih
theorem scan_over (text : ByteArray) (a n : Nat) (hn : text.size - a - 8 < n) (hm : n ≤ 9223372036854775807) (hov : 9223372036854775807 < n + padOf n) :
    Ev (fun k => depotref03_OneText.l0 k text (a : Int) (n : Int) ((text.size - a - 8 : Nat) : Int) (n : Int)) ((⟨#[]⟩ : ByteArray), -1, 0, 0, (text.size : Int)) := by
  have hp := pad8 n
  have hpw := padW n hm
  apply succ
  simp only [depotref03_OneText.l0]
  rw [hpw]
  have hw : wrap64 ((n : Int) + ((padOf n : Nat) : Int)) < 0 := by
    unfold wrap64
    omega
  refine neg (by omega) (pos (by omega) (now rfl))
/-- OneText, whole. -/
def oneR (text : ByteArray) (a : Nat) (m : Int) : ByteArray × Int × Int × Int × Int :=
  if text.size < a + 8 then (⟨#[]⟩, -1, 0, 0, (text.size : Int))
  else if m < val (((numsOf text).drop a).take 8) then (⟨#[]⟩, -1, 6, (a : Int), (a : Int) + 7)
  else scanR text a (val (((numsOf text).drop a).take 8)).toNat (firstNZ (((numsOf text).drop (a + 8 + (val (((numsOf text).drop a).take 8)).toNat)).take (padOf (val (((numsOf text).drop a).take 8)).toNat))) 0
theorem one_ev (text : ByteArray) (a : Nat) (m : Int) (ha : a ≤ text.size) (hs : text.size ≤ 1099511627776) (h0 : 0 ≤ m) (h1 : m ≤ 9223372036854775807) : Ev (fun k => depotref03_OneText.f k text (a : Int) m) (oneR text a m) := by
  unfold oneR
  simp only [depotref03_OneText.f]
  rw [w64 (x := (text.size : Int) - 8) (by omega) (by omega)]
  by_cases h8 : text.size < a + 8
  · rw [if_pos h8]
    exact pos (by omega) (now rfl)
  · rw [if_neg h8]
    refine neg (by omega) (Ev.bind (num_ev text a (by omega) hs) ?_)
    have hV := val_nonneg _ (byts_take (byts_drop (byts_text text) a) 8)
    generalize val (((numsOf text).drop a).take 8) = V at hV ⊢
    obtain ⟨n, rfl⟩ := Int.eq_ofNat_of_zero_le hV
    have hmw : IntKind.u64.wrap m = m := by
      have : IntKind.u64.wrap m = m % 18446744073709551616 := rfl
      omega
    rw [hmw, w64 (x := (a : Int) + 7) (by omega) (by omega)]
    by_cases hl : m < (n : Int)
    · rw [if_pos hl]
      exact pos hl (now rfl)
    · rw [if_neg hl, Int.toNat_natCast]
      refine neg hl ?_
      rw [w64 (x := (n : Int)) (by omega) (by omega), w64 (x := (text.size : Int) - (a : Int)) (by omega) (by omega), w64 (x := (text.size : Int) - (a : Int) - 8) (by omega) (by omega)]
      have e1 : (text.size : Int) - (a : Int) - 8 = ((text.size - a - 8 : Nat) : Int) := by omega
      rw [e1]
      by_cases hn : n ≤ text.size - a - 8
      · have := scan_in text a n (by omega) hs hn (padOf n) 0 (by omega)
        rw [List.drop_zero, Nat.add_zero] at this
        exact this
      · have hz : ((numsOf text).drop (a + 8 + n)).take (padOf n) = [] := by
          rw [List.drop_of_length_le (by rw [numsOf_len]; omega), List.take_nil]
        rw [hz]
        simp only [firstNZ, scanR]
        rw [if_pos (by omega)]
        rcases scan_out text a n (by omega) hs (by omega) (by omega) (padOf n) 0 (by omega) with this | hov
        · rw [Nat.add_zero] at this
          exact this
        · exact scan_over text a n (by omega) (by omega) hov
end Go.Proofs.Ytnilogameaaooaa.Pure
