/- By a program of this session's: a plain Lean function for a Go function, and its contract. -/
import Derived.Test.YtglhbbijoeeclaaQ0
import Derived.Test.YtglhbbijoeeclaaExtLabel
namespace Go.Proofs.Ytglhbbijoeeclaa.Q
open Go.RowKit Go.Proofs.YtglhbbijoeeclaaW.PrintWords Go.Proofs.YtglhbbijoeeclaaW.PrintLast Go.Proofs.YtglhbbijoeeclaaW.PrintMore
attribute [local go_sem] max2_int min2_int max_two min_two max_three min_three max_four min_four Go.Proofs.Ytglhbbijoeeclaa.Ord.str_leq Go.Proofs.Ytglhbbijoeeclaa.Ord.str_gtr Go.Proofs.Ytglhbbijoeeclaa.Ord.str_geq   -- for this text's walks alone
set_option linter.unusedVariables false
set_option linter.unusedSimpArgs false

/-! ### depotlaw13_SpathLabels: function 3 -/
mutual
def depotlaw13_SpathLabels.j0 : Nat → ByteArray → Bool → Option (Bool)
  | 0, _, _ => none
  | k + 1, x0, x14 => if x14 = true then (some false) else (if (x0.size : Int) > 0 then (if (x0.size : Int) ≤ 211 then (if 0 < (x0.size : Int) then (depotlaw13_SpathLabels.j1 k x0 ((bt x0 0) != 46)) else (none)) else (depotlaw13_SpathLabels.j1 k x0 false)) else (depotlaw13_SpathLabels.j1 k x0 false))
def depotlaw13_SpathLabels.j1 : Nat → ByteArray → Bool → Option (Bool)
  | 0, _, _ => none
  | k + 1, x0, x3 => depotlaw13_SpathLabels.l0 k x0 x3 0
def depotlaw13_SpathLabels.l0 : Nat → ByteArray → Bool → Int → Option (Bool)
  | 0, _, _, _ => none
  | k + 1, x0, x3, x4 => if x4 < (x0.size : Int) then (if 0 ≤ x4 then (if x4 ≤ (wrap64 (x4 + 1)) then (if (wrap64 (x4 + 1)) ≤ (x0.size : Int) then (if 1 + (x0.extract (x4 : Int).toNat ((wrap64 (x4 + 1)) : Int).toNat).size ≤ 9223372036854775807 then ((spath_CheckLabel.f ((⟨#[97]⟩ : ByteArray) ++ (x0.extract (x4 : Int).toNat ((wrap64 (x4 + 1)) : Int).toNat))).bind fun t104 => (if t104 = 0 then (depotlaw13_SpathLabels.l0 k x0 x3 (wrap64 (x4 + 1))) else (depotlaw13_SpathLabels.l0 k x0 false (wrap64 (x4 + 1))))) else (none)) else (none)) else (none)) else (none)) else ((spath_CheckLabel.f x0).bind fun t105 => (some ((t105 == 0) == x3)))
end
def depotlaw13_SpathLabels.f (k : Nat) (a0 : ByteArray) : Option (Bool) := (spath_CheckLabel.f (⟨#[97, 46, 98]⟩ : ByteArray)).bind fun t101 => (if t101 = 0 then ((spath_CheckLabel.f (⟨#[]⟩ : ByteArray)).bind fun t102 => (if t102 = 130 then ((spath_CheckLabel.f (⟨#[46, 97]⟩ : ByteArray)).bind fun t103 => (depotlaw13_SpathLabels.j0 k a0 (t103 != 130))) else (depotlaw13_SpathLabels.j0 k a0 true))) else (depotlaw13_SpathLabels.j0 k a0 true))
theorem depotlaw13_SpathLabels.mono_l : ∀ k, (∀ y0 y1, LeO (depotlaw13_SpathLabels.j0 k y0 y1) (depotlaw13_SpathLabels.j0 (k + 1) y0 y1)) ∧ (∀ y0 y1, LeO (depotlaw13_SpathLabels.j1 k y0 y1) (depotlaw13_SpathLabels.j1 (k + 1) y0 y1)) ∧ (∀ y0 y1 y2, LeO (depotlaw13_SpathLabels.l0 k y0 y1 y2) (depotlaw13_SpathLabels.l0 (k + 1) y0 y1 y2))
  | 0 => ⟨fun _ _ r h => by simp [depotlaw13_SpathLabels.j0] at h, fun _ _ r h => by simp [depotlaw13_SpathLabels.j1] at h, fun _ _ _ r h => by simp [depotlaw13_SpathLabels.l0] at h⟩
  | k + 1 => by
    obtain ⟨ih0, ih1, ih2⟩ := depotlaw13_SpathLabels.mono_l k
    refine ⟨?_, ?_, ?_⟩
    · intro y0 y1
      unfold depotlaw13_SpathLabels.j0
      repeat' first
      | (with_reducible exact ih0 _ _)
      | (with_reducible exact ih1 _ _)
      | (with_reducible exact ih2 _ _ _)
      | (with_reducible exact LeO.refl _)
      | (with_reducible exact LeO.none _)
      | (with_reducible refine LeO.ite ?_ ?_)
      | (with_reducible refine LeO.bind ?_ (fun _ => ?_))
      | exact ih0 _ _
      | exact ih1 _ _
      | exact ih2 _ _ _
      | exact LeO.none _
      | refine LeO.ite ?_ ?_
      | refine LeO.bind ?_ (fun _ => ?_)
    · intro y0 y1
      unfold depotlaw13_SpathLabels.j1
      repeat' first
      | (with_reducible exact ih0 _ _)
      | (with_reducible exact ih1 _ _)
      | (with_reducible exact ih2 _ _ _)
      | (with_reducible exact LeO.refl _)
      | (with_reducible exact LeO.none _)
      | (with_reducible refine LeO.ite ?_ ?_)
      | (with_reducible refine LeO.bind ?_ (fun _ => ?_))
      | exact ih0 _ _
      | exact ih1 _ _
      | exact ih2 _ _ _
      | exact LeO.none _
      | refine LeO.ite ?_ ?_
      | refine LeO.bind ?_ (fun _ => ?_)
    · intro y0 y1 y2
      unfold depotlaw13_SpathLabels.l0
      repeat' first
      | (with_reducible exact ih0 _ _)
      | (with_reducible exact ih1 _ _)
      | (with_reducible exact ih2 _ _ _)
      | (with_reducible exact LeO.refl _)
      | (with_reducible exact LeO.none _)
      | (with_reducible refine LeO.ite ?_ ?_)
      | (with_reducible refine LeO.bind ?_ (fun _ => ?_))
      | exact ih0 _ _
      | exact ih1 _ _
      | exact ih2 _ _ _
      | exact LeO.none _
      | refine LeO.ite ?_ ?_
      | refine LeO.bind ?_ (fun _ => ?_)
theorem depotlaw13_SpathLabels.mono : ∀ a0 k, LeO (depotlaw13_SpathLabels.f k a0) (depotlaw13_SpathLabels.f (k + 1) a0) := by
  intro a0 k
  obtain ⟨ih0, ih1, ih2⟩ := depotlaw13_SpathLabels.mono_l k
  unfold depotlaw13_SpathLabels.f
  repeat' first
      | (with_reducible exact ih0 _ _)
      | (with_reducible exact ih1 _ _)
      | (with_reducible exact ih2 _ _ _)
      | (with_reducible exact LeO.refl _)
      | (with_reducible exact LeO.none _)
      | (with_reducible refine LeO.ite ?_ ?_)
      | (with_reducible refine LeO.bind ?_ (fun _ => ?_))
      | exact ih0 _ _
      | exact ih1 _ _
      | exact ih2 _ _ _
      | exact LeO.none _
      | refine LeO.ite ?_ ?_
      | refine LeO.bind ?_ (fun _ => ?_)
set_option maxHeartbeats 8000000 in
set_option maxRecDepth 100000 in
theorem depotlaw13_SpathLabels.calls (k : Nat) (a0 : ByteArray) (r : Bool) (w : World) (h : depotlaw13_SpathLabels.f k a0 = some r) :
    Calls Try.prog 3 #[.string a0] w fun e w' => e = .returned (.bool r) ∧ Below w.heap.size w w' := by
  have HB := Aside0.mk (Below.refl w.heap.size w)
  have H : ((spath_CheckLabel.f (⟨#[97, 46, 98]⟩ : ByteArray)).bind fun t101 => (if t101 = 0 then ((spath_CheckLabel.f (⟨#[]⟩ : ByteArray)).bind fun t102 => (if t102 = 130 then ((spath_CheckLabel.f (⟨#[46, 97]⟩ : ByteArray)).bind fun t103 => (depotlaw13_SpathLabels.j0 k a0 (t103 != 130))) else (depotlaw13_SpathLabels.j0 k a0 true))) else (depotlaw13_SpathLabels.j0 k a0 true))) = some r := h
  clear h
  have HC2 := Aside0.mk H
  clear H
  go_enter Try.func3, Try.ntmps3
  go_upto_region 1 with (fail)
  go_cut [14] (fun v14 wc => ∃ (kq : Nat) (x14_1 : Bool), v14 = .bool x14_1 ∧ Aside0 (depotlaw13_SpathLabels.j0 kq a0 x14_1 = some r) ∧ Aside0 (kq ≤ k) ∧ Aside0 (Below w.heap.size w wc))
  case first =>
    have H := HC2.out
    clear HC2
    replace H := Option.bind_eq_some_iff.mp H
    obtain ⟨t101, A30, H⟩ := H
    replace H : (if t101 = 0 then ((spath_CheckLabel.f (⟨#[]⟩ : ByteArray)).bind fun t102 => (if t102 = 130 then ((spath_CheckLabel.f (⟨#[46, 97]⟩ : ByteArray)).bind fun t103 => (depotlaw13_SpathLabels.j0 k a0 (t103 != 130))) else (depotlaw13_SpathLabels.j0 k a0 true))) else (depotlaw13_SpathLabels.j0 k a0 true)) = some r := H
    have A3 := Aside0.mk A30
    clear A30
    by_cases c4 : t101 = 0
    · rw [if_pos c4] at H
      have c4b0 : (t101 == 0) = true := beq_iff_eq.mpr c4
      have c4b1 : (t101 != 0) = false := bne_eq_false_iff_eq.mpr c4
      clear c4
      (first | rw [c4b0] | (simp only [i64_w, i32_w]; rw [c4b0]) | skip)
      replace H := Option.bind_eq_some_iff.mp H
      obtain ⟨t102, A50, H⟩ := H
      replace H : (if t102 = 130 then ((spath_CheckLabel.f (⟨#[46, 97]⟩ : ByteArray)).bind fun t103 => (depotlaw13_SpathLabels.j0 k a0 (t103 != 130))) else (depotlaw13_SpathLabels.j0 k a0 true)) = some r := H
      have A5 := Aside0.mk A50
      clear A50
      by_cases c6 : t102 = 130
      · rw [if_pos c6] at H
        have c6b0 : (t102 == 130) = true := beq_iff_eq.mpr c6
        have c6b1 : (t102 != 130) = false := bne_eq_false_iff_eq.mpr c6
        clear c6
        replace H := Option.bind_eq_some_iff.mp H
        obtain ⟨t103, A70, H⟩ := H
        replace H : (depotlaw13_SpathLabels.j0 k a0 (t103 != 130)) = some r := H
        have A7 := Aside0.mk A70
        clear A70
        have H' := Aside0.mk H
        clear H
        go_wp2_with (first | ((with_reducible refine gate_callee (f := 6) rfl ?_); refine goesL_ (some 5) rfl rfl Try.func6 (by kernel_rfl) rfl #[.string (⟨#[97, 46, 98]⟩ : ByteArray)] rfl (by (try simp only [List.map_toArray, List.map_cons, List.map_nil]); first | done | rfl | (simp only [List.length_drop, List.length_take]; rfl)) ?_; (with_reducible refine (spath_CheckLabel.calls (⟨#[97, 46, 98]⟩ : ByteArray) t101 _ A3.out).mono ?_); rintro e w8 ⟨rfl, hb⟩; refine ⟨_, rfl, ?_⟩; have n0_ := Aside0.mk (below_step (by repeat (first | (with_reducible first | exact HB.out | apply below_alloc | apply pw_below_drewN | apply below_drew1) | exact HB.out)) hb); clear HB; have HB := n0_; clear n0_; (try clear hb); (try clear hb2); (try clear hk); (try clear hi)) | (go_at_call 6; (with_reducible refine (spath_CheckLabel.calls (⟨#[]⟩ : ByteArray) t102 _ A5.out).mono ?_); rintro e w9 ⟨rfl, hb⟩; have n0_ := Aside0.mk (below_step (by repeat (first | (with_reducible first | exact HB.out | apply below_alloc | apply pw_below_drewN | apply below_drew1) | exact HB.out)) hb); clear HB; have HB := n0_; clear n0_; (try clear hb); (try clear hb2); (try clear hk); (try clear hi)) | (go_at_call 6; (with_reducible refine (spath_CheckLabel.calls (⟨#[46, 97]⟩ : ByteArray) t103 _ A7.out).mono ?_); rintro e w10 ⟨rfl, hb⟩; have n0_ := Aside0.mk (below_step (by repeat (first | (with_reducible first | exact HB.out | apply below_alloc | apply pw_below_drewN | apply below_drew1) | exact HB.out)) hb); clear HB; have HB := n0_; clear n0_; (try clear hb); (try clear hb2); (try clear hk); (try clear hi)))
        go_meet
        case rel => exact ⟨_, ((t103 != 130)), (by first | rfl | (simp; done) | (simp [*]; done)), H', ⟨by first | omega | exact Nat.le_refl _⟩, ⟨by repeat (first | (with_reducible first | exact HB.out | apply below_alloc | apply pw_below_drewN | apply below_drew1) | exact HB.out)⟩⟩
      · rw [if_neg c6] at H
        have c6b0 : (t102 == 130) = false := beq_eq_false_iff_ne.mpr c6
        have c6b1 : (t102 != 130) = true := bne_iff_ne.mpr c6
        have H' := Aside0.mk H
        clear H
        go_wp2_with (first | ((with_reducible refine gate_callee (f := 6) rfl ?_); refine goesL_ (some 5) rfl rfl Try.func6 (by kernel_rfl) rfl #[.string (⟨#[97, 46, 98]⟩ : ByteArray)] rfl (by (try simp only [List.map_toArray, List.map_cons, List.map_nil]); first | done | rfl | (simp only [List.length_drop, List.length_take]; rfl)) ?_; (with_reducible refine (spath_CheckLabel.calls (⟨#[97, 46, 98]⟩ : ByteArray) t101 _ A3.out).mono ?_); rintro e w11 ⟨rfl, hb⟩; refine ⟨_, rfl, ?_⟩; have n0_ := Aside0.mk (below_step (by repeat (first | (with_reducible first | exact HB.out | apply below_alloc | apply pw_below_drewN | apply below_drew1) | exact HB.out)) hb); clear HB; have HB := n0_; clear n0_; (try clear hb); (try clear hb2); (try clear hk); (try clear hi)) | (go_at_call 6; (with_reducible refine (spath_CheckLabel.calls (⟨#[]⟩ : ByteArray) t102 _ A5.out).mono ?_); rintro e w12 ⟨rfl, hb⟩; have n0_ := Aside0.mk (below_step (by repeat (first | (with_reducible first | exact HB.out | apply below_alloc | apply pw_below_drewN | apply below_drew1) | exact HB.out)) hb); clear HB; have HB := n0_; clear n0_; (try clear hb); (try clear hb2); (try clear hk); (try clear hi)))
        go_meet
        case rel => exact ⟨_, (true), (by first | rfl | (simp; done) | (simp [*]; done)), H', ⟨by first | omega | exact Nat.le_refl _⟩, ⟨by repeat (first | (with_reducible first | exact HB.out | apply below_alloc | apply pw_below_drewN | apply below_drew1) | exact HB.out)⟩⟩
    · rw [if_neg c4] at H
      have c4b0 : (t101 == 0) = false := beq_eq_false_iff_ne.mpr c4
      have c4b1 : (t101 != 0) = true := bne_iff_ne.mpr c4
      (first | rw [c4b0] | (simp only [i64_w, i32_w]; rw [c4b0]) | skip)
      have H' := Aside0.mk H
      clear H
      go_wp2_with (first | ((with_reducible refine gate_callee (f := 6) rfl ?_); refine goesL_ (some 5) rfl rfl Try.func6 (by kernel_rfl) rfl #[.string (⟨#[97, 46, 98]⟩ : ByteArray)] rfl (by (try simp only [List.map_toArray, List.map_cons, List.map_nil]); first | done | rfl | (simp only [List.length_drop, List.length_take]; rfl)) ?_; (with_reducible refine (spath_CheckLabel.calls (⟨#[97, 46, 98]⟩ : ByteArray) t101 _ A3.out).mono ?_); rintro e w13 ⟨rfl, hb⟩; refine ⟨_, rfl, ?_⟩; have n0_ := Aside0.mk (below_step (by repeat (first | (with_reducible first | exact HB.out | apply below_alloc | apply pw_below_drewN | apply below_drew1) | exact HB.out)) hb); clear HB; have HB := n0_; clear n0_; (try clear hb); (try clear hb2); (try clear hk); (try clear hi)))
      go_meet
      case rel => exact ⟨_, (true), (by first | rfl | (simp; done) | (simp [*]; done)), H', ⟨by first | omega | exact Nat.le_refl _⟩, ⟨by repeat (first | (with_reducible first | exact HB.out | apply below_alloc | apply pw_below_drewN | apply below_drew1) | exact HB.out)⟩⟩
  case rest =>
    clear HC2
    try clear p2
    try clear c3
    try clear c4
    try clear c4b0
    try clear c4b1
    try clear c6
    try clear c6b0
    try clear c6b1
    obtain ⟨kq, x14_1, rfl, HA, HJ1, HB⟩ := hcut
    cases kq with
    | zero => exact absurd HA.out (by simp [depotlaw13_SpathLabels.j0])
    | succ kj1 =>
      have H := HA.out
      clear HA
      simp only [depotlaw13_SpathLabels.j0] at H
      by_cases c14 : x14_1 = true
      · subst c14
        have H1 : (some false) = some r := by rw [if_pos rfl] at H; exact H
        clear H
        have H := H1
        clear H1
        obtain rfl := Option.some.inj H
        go_wp2
        go_ret
        exact ⟨by first | rfl | (simp [errW_none, errW_some] <;> rfl) | (simp [*, errW_none, errW_some] <;> rfl), by repeat (first | (with_reducible first | exact HB.out | apply below_alloc | apply pw_below_drewN | apply below_drew1) | exact HB.out)⟩
      · replace c14 := Bool.eq_false_iff.mpr c14
        subst c14
        have H1 : (if (a0.size : Int) > 0 then (if (a0.size : Int) ≤ 211 then (if 0 < (a0.size : Int) then (depotlaw13_SpathLabels.j1 kj1 a0 ((bt a0 0) != 46)) else (none)) else (depotlaw13_SpathLabels.j1 kj1 a0 false)) else (depotlaw13_SpathLabels.j1 kj1 a0 false)) = some r := by rw [if_neg (show ¬ (false = true) by decide)] at H; exact H
        clear H
        have H := H1
        clear H1
        have HC15 := Aside0.mk H
        clear H
        go_upto_region 3 with (fail)
        go_cut [3] (fun v3 wc => ∃ (kq : Nat) (x3_14 : Bool), v3 = .bool x3_14 ∧ Aside0 (depotlaw13_SpathLabels.j1 kq a0 x3_14 = some r) ∧ Aside0 (kq ≤ kj1) ∧ Aside0 (Below w.heap.size w wc))
        case first =>
          have H := HC15.out
          clear HC15
          by_cases c16 : (a0.size : Int) > 0
          · rw [if_pos c16] at H
            have c16b0 : decide (0 < (a0.size : Int)) = true := decide_eq_true c16
            have c16b1 : decide (0 < a0.size) = true := decide_eq_true (by omega)
            clear c16
            (first | rw [c16b0] | (simp only [i64_w, i32_w]; rw [c16b0]) | skip)
            by_cases c17 : (a0.size : Int) ≤ 211
            · rw [if_pos c17] at H
              have c17b0 : decide ((a0.size : Int) ≤ 211) = true := decide_eq_true c17
              have c17b1 : decide (a0.size ≤ 211) = true := decide_eq_true (by omega)
              clear c17
              by_cases c18 : 0 < (a0.size : Int)
              · rw [if_pos c18] at H
                have c18b0 : decide (0 < (a0.size : Int)) = true := decide_eq_true c18
                have c18b1 : decide (0 < a0.size) = true := decide_eq_true (by omega)
                clear c18
                have H' := Aside0.mk H
                clear H
                have p19 : 0 ≤ (0 : Int) := (by omega)
                have q19 : 0 < a0.size := (by have : (0 : Int) < (a0.size : Int) := of_decide_eq_true (by first | (with_reducible assumption) | assumption); omega)
                have hx19 : ∀ h : 0 < a0.size, ((a0[0]'h).toNat : Int) = bt a0 0 := bt_at a0 0
                clear p19
                have qi19 : (0 < (a0.size : Int)) = True := eq_true (of_decide_eq_true (by first | (with_reducible assumption) | assumption))
                replace q19 := eq_true q19
                go_wp2
                go_meet
                case rel => exact ⟨_, (((bt a0 0) != 46)), (by first | rfl | (simp; done) | (simp [*]; done)), H', ⟨by have := HJ1.out; first | omega | exact Nat.le_refl _⟩, ⟨by repeat (first | (with_reducible first | exact HB.out | apply below_alloc | apply pw_below_drewN | apply below_drew1) | exact HB.out)⟩⟩
              · rw [if_neg c18] at H
                exact absurd H (by simp)
            · rw [if_neg c17] at H
              have c17b0 : decide ((a0.size : Int) ≤ 211) = false := decide_eq_false c17
              have c17b1 : decide (a0.size ≤ 211) = false := decide_eq_false (by omega)
              clear c17
              have H' := Aside0.mk H
              clear H
              go_wp2
              go_meet
              case rel => exact ⟨_, (false), (by first | rfl | (simp; done) | (simp [*]; done)), H', ⟨by have := HJ1.out; first | omega | exact Nat.le_refl _⟩, ⟨by repeat (first | (with_reducible first | exact HB.out | apply below_alloc | apply pw_below_drewN | apply below_drew1) | exact HB.out)⟩⟩
          · rw [if_neg c16] at H
            have c16b0 : decide (0 < (a0.size : Int)) = false := decide_eq_false c16
            have c16b1 : decide (0 < a0.size) = false := decide_eq_false (by omega)
            clear c16
            (first | rw [c16b0] | (simp only [i64_w, i32_w]; rw [c16b0]) | skip)
            have H' := Aside0.mk H
            clear H
            go_wp2
            go_meet
            case rel => exact ⟨_, (false), (by first | rfl | (simp; done) | (simp [*]; done)), H', ⟨by have := HJ1.out; first | omega | exact Nat.le_refl _⟩, ⟨by repeat (first | (with_reducible first | exact HB.out | apply below_alloc | apply pw_below_drewN | apply below_drew1) | exact HB.out)⟩⟩
        case rest =>
          clear HC15
          try clear c1
          try clear p1
          try clear q1
          try clear hx1
          try clear qi1
          try clear p2
          try clear c3
          try clear c4
          try clear c4b0
          try clear c4b1
          try clear c6
          try clear c6b0
          try clear c6b1
          try clear c14
          try clear c16
          try clear c16b0
          try clear c16b1
          try clear c17
          try clear c17b0
          try clear c17b1
          try clear c18
          try clear c18b0
          try clear c18b1
          try clear p19
          try clear q19
          try clear hx19
          try clear qi19
          try clear p19
          try clear p2
          try clear q19
          obtain ⟨kq, x3_14, rfl, HA, HJ14, HB⟩ := hcut
          cases kq with
          | zero => exact absurd HA.out (by simp [depotlaw13_SpathLabels.j1])
          | succ kj14 =>
            have H := HA.out
            clear HA
            simp only [depotlaw13_SpathLabels.j1] at H
            have H' := Aside0.mk H
            clear H
            go_wp2
            go_loopg [3, 4] kj14 (fun kq v3 v4 w' => ∃ (x3_3 : Bool) (x4_3 : Int), v3 = .bool x3_3 ∧ v4 = .int .i64 x4_3 ∧ Aside0 (depotlaw13_SpathLabels.l0 kq a0 x3_3 x4_3 = some r) ∧ Aside0 (kq ≤ kj14) ∧ Aside0 (Below w.heap.size w w'))
            case atStart => exact ⟨(x3_14), (0), (by first | rfl | (simp; done) | (simp [*]; done)), (by first | rfl | (simp; done) | (simp [*]; done)), H', ⟨Nat.le_refl _⟩, ⟨by repeat (first | (with_reducible first | exact HB.out | apply below_alloc | apply pw_below_drewN | apply below_drew1) | exact HB.out)⟩⟩
            case round =>
              clear H'
              try clear c1
              try clear p1
              try clear q1
              try clear hx1
              try clear qi1
              try clear p2
              try clear c3
              try clear c4
              try clear c4b0
              try clear c4b1
              try clear c6
              try clear c6b0
              try clear c6b1
              try clear c14
              try clear c16
              try clear c16b0
              try clear c16b1
              try clear c17
              try clear c17b0
              try clear c17b1
              try clear c18
              try clear c18b0
              try clear c18b1
              try clear p19
              try clear q19
              try clear hx19
              try clear qi19
              try clear p1
              try clear p19
              try clear p2
              try clear q1
              try clear q19
              obtain ⟨x3_3, x4_3, rfl, rfl, HA, HK3, HB⟩ := hrel
              cases gk with
              | zero => exact absurd HA.out (by simp [depotlaw13_SpathLabels.l0])
              | succ k3 =>
                have H := HA.out
                clear HA
                simp only [depotlaw13_SpathLabels.l0] at H
                by_cases c20 : x4_3 < (a0.size : Int)
                · rw [if_pos c20] at H
                  have c20b0 : decide (x4_3 < (a0.size : Int)) = true := decide_eq_true c20
                  clear c20
                  by_cases c21 : 0 ≤ x4_3
                  · rw [if_pos c21] at H
                    have c21b0 := eq_true c21
                    have c21b1 : decide (0 ≤ x4_3) = true := decide_eq_true c21
                    clear c21
                    by_cases c22 : x4_3 ≤ (wrap64 (x4_3 + 1))
                    · rw [if_pos c22] at H
                      have c22b0 := eq_true c22
                      have c22b1 : decide (x4_3 ≤ (wrap64 (x4_3 + 1))) = true := decide_eq_true c22
                      by_cases c23 : (wrap64 (x4_3 + 1)) ≤ (a0.size : Int)
                      · rw [if_pos c23] at H
                        have c23b0 := eq_true c23
                        have c23b1 : decide ((wrap64 (x4_3 + 1)) ≤ (a0.size : Int)) = true := decide_eq_true c23
                        by_cases c24 : 1 + (a0.extract (x4_3 : Int).toNat ((wrap64 (x4_3 + 1)) : Int).toNat).size ≤ 9223372036854775807
                        · rw [if_pos c24] at H
                          have c24b0 := eq_true c24
                          have c24b1 : decide (1 + (a0.extract (x4_3 : Int).toNat ((wrap64 (x4_3 + 1)) : Int).toNat).size ≤ 9223372036854775807) = true := decide_eq_true c24
                          try have c24b2 : (9223372036854775807 < 1 + (a0.extract (x4_3 : Int).toNat ((wrap64 (x4_3 + 1)) : Int).toNat).size) = False := eq_false (Nat.not_lt.2 c24)
                          (try have c24b3 : (9223372036854775807 < 1 + (((wrap64 (x4_3 + 1)) : Int).toNat - (x4_3 : Int).toNat)) = False := by have z_ := c24; rw [ByteArray.size_extract, Nat.min_eq_left (by omega)] at z_; exact eq_false (Nat.not_lt.2 z_))
                          replace H := Option.bind_eq_some_iff.mp H
                          obtain ⟨t104, A250, H⟩ := H
                          replace H : (if t104 = 0 then (depotlaw13_SpathLabels.l0 k3 a0 x3_3 (wrap64 (x4_3 + 1))) else (depotlaw13_SpathLabels.l0 k3 a0 false (wrap64 (x4_3 + 1)))) = some r := H
                          have A25 := Aside0.mk A250
                          clear A250
                          by_cases c26 : t104 = 0
                          · rw [if_pos c26] at H
                            have c26b0 : (t104 == 0) = true := beq_iff_eq.mpr c26
                            have c26b1 : (t104 != 0) = false := bne_eq_false_iff_eq.mpr c26
                            clear c26
                            have H' := Aside0.mk H
                            clear H
                            go_wp2_with (first | ((with_reducible refine gate_callee (f := 6) rfl ?_); refine goesL_ (some 40) rfl rfl Try.func6 (by kernel_rfl) rfl #[.string ((⟨#[97]⟩ : ByteArray) ++ (a0.extract (x4_3 : Int).toNat ((wrap64 (x4_3 + 1)) : Int).toNat))] rfl (by (try simp only [List.map_toArray, List.map_cons, List.map_nil]); first | done | rfl | (simp only [List.length_drop, List.length_take]; rfl)) ?_; (with_reducible refine (spath_CheckLabel.calls ((⟨#[97]⟩ : ByteArray) ++ (a0.extract (x4_3 : Int).toNat ((wrap64 (x4_3 + 1)) : Int).toNat)) t104 _ A25.out).mono ?_); rintro e w27 ⟨rfl, hb⟩; refine ⟨_, rfl, ?_⟩; have n0_ := Aside0.mk (below_step (by repeat (first | (with_reducible first | exact HB.out | apply below_alloc | apply pw_below_drewN | apply below_drew1) | exact HB.out)) hb); clear HB; have HB := n0_; clear n0_; (try clear hb); (try clear hb2); (try clear hk); (try clear hi)))
                            go_roundg k3
                            case measure => have := HJ1.out; have := HJ14.out; have := HK3.out; omega
                            case rel => exact ⟨(x3_3), (wrap64 (x4_3 + 1)), (by first | rfl | (simp; done) | (simp [*]; done)), (by first | rfl | (simp; done) | (simp [*]; done)), H', ⟨by have := HJ1.out; have := HJ14.out; have := HK3.out; omega⟩, ⟨by repeat (first | (with_reducible first | exact HB.out | apply below_alloc | apply pw_below_drewN | apply below_drew1) | exact HB.out)⟩⟩
                          · rw [if_neg c26] at H
                            have c26b0 : (t104 == 0) = false := beq_eq_false_iff_ne.mpr c26
                            have c26b1 : (t104 != 0) = true := bne_iff_ne.mpr c26
                            have H' := Aside0.mk H
                            clear H
                            go_wp2_with (first | ((with_reducible refine gate_callee (f := 6) rfl ?_); refine goesL_ (some 40) rfl rfl Try.func6 (by kernel_rfl) rfl #[.string ((⟨#[97]⟩ : ByteArray) ++ (a0.extract (x4_3 : Int).toNat ((wrap64 (x4_3 + 1)) : Int).toNat))] rfl (by (try simp only [List.map_toArray, List.map_cons, List.map_nil]); first | done | rfl | (simp only [List.length_drop, List.length_take]; rfl)) ?_; (with_reducible refine (spath_CheckLabel.calls ((⟨#[97]⟩ : ByteArray) ++ (a0.extract (x4_3 : Int).toNat ((wrap64 (x4_3 + 1)) : Int).toNat)) t104 _ A25.out).mono ?_); rintro e w28 ⟨rfl, hb⟩; refine ⟨_, rfl, ?_⟩; have n0_ := Aside0.mk (below_step (by repeat (first | (with_reducible first | exact HB.out | apply below_alloc | apply pw_below_drewN | apply below_drew1) | exact HB.out)) hb); clear HB; have HB := n0_; clear n0_; (try clear hb); (try clear hb2); (try clear hk); (try clear hi)))
                            go_roundg k3
                            case measure => have := HJ1.out; have := HJ14.out; have := HK3.out; omega
                            case rel => exact ⟨(false), (wrap64 (x4_3 + 1)), (by first | rfl | (simp; done) | (simp [*]; done)), (by first | rfl | (simp; done) | (simp [*]; done)), H', ⟨by have := HJ1.out; have := HJ14.out; have := HK3.out; omega⟩, ⟨by repeat (first | (with_reducible first | exact HB.out | apply below_alloc | apply pw_below_drewN | apply below_drew1) | exact HB.out)⟩⟩
                        · rw [if_neg c24] at H
                          exact absurd H (by simp)
                      · rw [if_neg c23] at H
                        exact absurd H (by simp)
                    · rw [if_neg c22] at H
                      exact absurd H (by simp)
                  · rw [if_neg c21] at H
                    exact absurd H (by simp)
                · rw [if_neg c20] at H
                  have c20b0 : decide (x4_3 < (a0.size : Int)) = false := decide_eq_false c20
                  clear c20
                  replace H := Option.bind_eq_some_iff.mp H
                  obtain ⟨t105, A290, H⟩ := H
                  replace H : (some ((t105 == 0) == x3_3)) = some r := H
                  have A29 := Aside0.mk A290
                  clear A290
                  obtain rfl := Option.some.inj H
                  go_wp2_with (first | ((with_reducible refine gate_callee (f := 6) rfl ?_); refine goesL_ (some 43) rfl rfl Try.func6 (by kernel_rfl) rfl #[.string a0] rfl (by (try simp only [List.map_toArray, List.map_cons, List.map_nil]); first | done | rfl | (simp only [List.length_drop, List.length_take]; rfl)) ?_; (with_reducible refine (spath_CheckLabel.calls a0 t105 _ A29.out).mono ?_); rintro e w30 ⟨rfl, hb⟩; refine ⟨_, rfl, ?_⟩; have n0_ := Aside0.mk (below_step (by repeat (first | (with_reducible first | exact HB.out | apply below_alloc | apply pw_below_drewN | apply below_drew1) | exact HB.out)) hb); clear HB; have HB := n0_; clear n0_; (try clear hb); (try clear hb2); (try clear hk); (try clear hi)))
                  go_ret
                  exact ⟨by first | rfl | (simp [errW_none, errW_some] <;> rfl) | (simp [*, errW_none, errW_some] <;> rfl), by repeat (first | (with_reducible first | exact HB.out | apply below_alloc | apply pw_below_drewN | apply below_drew1) | exact HB.out)⟩

/-- THE ONE PURE STATEMENT of depotlaw13_SpathLabels: yours. -/
def depotlaw13_SpathLabels.Pure : Prop := ∀ (a0 : ByteArray), a0.size ≤ 140737488351232 → ∃ k, depotlaw13_SpathLabels.f k a0 = some true
theorem depotlaw13_SpathLabels.walk (P : depotlaw13_SpathLabels.Pure) (a0 : ByteArray) (w : World) (w0 : a0.size ≤ 140737488351232) :
    Calls Try.prog 3 #[.string a0] w fun e w' => e = .returned (.bool true) ∧ Below w.heap.size w w' := by
  obtain ⟨k, h⟩ := P a0 w0
  refine (depotlaw13_SpathLabels.calls k a0 true w h).mono ?_
  rintro e w' ⟨rfl, hd⟩
  exact ⟨rfl, hd⟩

end Go.Proofs.Ytglhbbijoeeclaa.Q
