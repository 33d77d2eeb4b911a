/- By a program of this session's: a plain Lean function for a Go function, and its contract. -/
import Derived.Test.YtglhbbijoeeclaaDoorQ0
import Derived.Test.YtglhbbijoeeclaaDoorQ38
import Derived.Test.YtglhbbijoeeclaaDoorQ40
namespace Go.Proofs.YtglhbbijoeeclaaDoor.Q
open Go.RowKit Go.Proofs.YtglhbbijoeeclaaDoorW.PrintWords Go.Proofs.YtglhbbijoeeclaaDoorW.PrintLast Go.Proofs.YtglhbbijoeeclaaDoorW.PrintMore
attribute [local go_sem] max2_int min2_int max_two min_two max_three min_three max_four min_four Go.Proofs.YtglhbbijoeeclaaDoor.Ord.str_leq Go.Proofs.YtglhbbijoeeclaaDoor.Ord.str_gtr Go.Proofs.YtglhbbijoeeclaaDoor.Ord.str_geq   -- for this text's walks alone
set_option linter.unusedVariables false
set_option linter.unusedSimpArgs false

/-! ### depotref13_Parse: function 51 -/
def depotref13_Parse.j0 : Nat → ByteArray → Bool → Option (ByteArray × ByteArray × Int)
  | 0, _, _ => none
  | k + 1, x0, x20 => if x20 = true then (some ((⟨#[]⟩ : ByteArray), (⟨#[]⟩ : ByteArray), 132)) else (if 13 ≤ 45 then (if 45 ≤ (x0.size : Int) then (if 46 ≤ (x0.size : Int) then ((depotref13_CheckHash.f k (x0.extract 13 45)).bind fun t151 => (if t151 = 0 then ((depotref13_CheckLabel.f k (x0.extract 46 x0.size)).bind fun t152 => (if t152 = 0 then (some (x0.extract 13 45, x0.extract 46 x0.size, 0)) else (some ((⟨#[]⟩ : ByteArray), (⟨#[]⟩ : ByteArray), t152)))) else (some ((⟨#[]⟩ : ByteArray), (⟨#[]⟩ : ByteArray), t151)))) else (none)) else (none)) else (none))
def depotref13_Parse.f (k : Nat) (a0 : ByteArray) : Option (ByteArray × ByteArray × Int) := if (a0.size : Int) < 46 then (depotref13_Parse.j0 k a0 true) else (if 0 ≤ 13 then (if 13 ≤ (a0.size : Int) then (if (a0.extract 0 13).toList = ([47, 100, 101, 112, 111, 116, 47, 115, 116, 111, 114, 101, 47] : List UInt8) then (if 45 < (a0.size : Int) then (depotref13_Parse.j0 k a0 ((bt a0 45) != 45)) else (none)) else (depotref13_Parse.j0 k a0 true)) else (none)) else (none))
theorem depotref13_Parse.mono_l : ∀ k, (∀ y0 y1, LeO (depotref13_Parse.j0 k y0 y1) (depotref13_Parse.j0 (k + 1) y0 y1))
  | 0 => fun _ _ r h => by simp [depotref13_Parse.j0] at h
  | k + 1 => by
    have ih0 := depotref13_Parse.mono_l k
    · intro y0 y1
      unfold depotref13_Parse.j0
      repeat' first
      | (with_reducible exact ih0 _ _)
      | (with_reducible exact depotref13_CheckHash.mono _ _)
      | (with_reducible exact depotref13_CheckLabel.mono _ _)
      | (with_reducible exact LeO.refl _)
      | (with_reducible exact LeO.none _)
      | (with_reducible refine LeO.ite ?_ ?_)
      | (with_reducible refine LeO.bind ?_ (fun _ => ?_))
      | exact ih0 _ _
      | exact depotref13_CheckHash.mono _ _
      | exact depotref13_CheckLabel.mono _ _
      | exact LeO.none _
      | refine LeO.ite ?_ ?_
      | refine LeO.bind ?_ (fun _ => ?_)
theorem depotref13_Parse.mono : ∀ a0 k, LeO (depotref13_Parse.f k a0) (depotref13_Parse.f (k + 1) a0) := by
  intro a0 k
  have ih0 := depotref13_Parse.mono_l k
  unfold depotref13_Parse.f
  repeat' first
      | (with_reducible exact ih0 _ _)
      | (with_reducible exact depotref13_CheckHash.mono _ _)
      | (with_reducible exact depotref13_CheckLabel.mono _ _)
      | (with_reducible exact LeO.refl _)
      | (with_reducible exact LeO.none _)
      | (with_reducible refine LeO.ite ?_ ?_)
      | (with_reducible refine LeO.bind ?_ (fun _ => ?_))
      | exact ih0 _ _
      | exact depotref13_CheckHash.mono _ _
      | exact depotref13_CheckLabel.mono _ _
      | exact LeO.none _
      | refine LeO.ite ?_ ?_
      | refine LeO.bind ?_ (fun _ => ?_)
set_option maxHeartbeats 8000000 in
set_option maxRecDepth 100000 in
theorem depotref13_Parse.calls (k : Nat) (a0 : ByteArray) (r1 : ByteArray) (r2 : ByteArray) (r3 : Int) (w : World) (h : depotref13_Parse.f k a0 = some (r1, r2, r3)) :
    Calls Tryd.prog 51 #[.string a0] w fun e w' => e = .returned (.tuple #[.string r1, .string r2, .int .i64 r3]) ∧ Drawn0 w w' := by
  have H : (if (a0.size : Int) < 46 then (depotref13_Parse.j0 k a0 true) else (if 0 ≤ 13 then (if 13 ≤ (a0.size : Int) then (if (a0.extract 0 13).toList = ([47, 100, 101, 112, 111, 116, 47, 115, 116, 111, 114, 101, 47] : List UInt8) then (if 45 < (a0.size : Int) then (depotref13_Parse.j0 k a0 ((bt a0 45) != 45)) else (none)) else (depotref13_Parse.j0 k a0 true)) else (none)) else (none))) = some (r1, r2, r3) := h
  clear h
  have HC2 := Aside0.mk H
  clear H
  go_enter Tryd.func51, Tryd.ntmps51
  go_upto_region 1 with (fail)
  go_cut [20] (fun v20 wc => ∃ (kq : Nat) (x20_1 : Bool), v20 = .bool x20_1 ∧ Aside0 (depotref13_Parse.j0 kq a0 x20_1 = some (r1, r2, r3)) ∧ Aside0 (kq ≤ k) ∧ Drawn0 w wc)
  case first =>
    have H := HC2.out
    clear HC2
    by_cases c3 : (a0.size : Int) < 46
    · rw [if_pos c3] at H
      have c3b0 : decide ((a0.size : Int) < 46) = true := decide_eq_true c3
      have c3b1 : decide (a0.size < 46) = true := decide_eq_true (by omega)
      clear c3
      (first | rw [c3b0] | (simp only [i64_w, i32_w]; rw [c3b0]) | skip)
      have H' := Aside0.mk H
      clear H
      go_wp2
      go_meet
      case rel => exact ⟨_, (true), (by first | rfl | (simp; done) | (simp [*]; done)), H', ⟨by first | omega | exact Nat.le_refl _⟩, by repeat (first | exact Drawn0.refl _ | apply Drawn0.step)⟩
    · rw [if_neg c3] at H
      have c3b0 : decide ((a0.size : Int) < 46) = false := decide_eq_false c3
      have c3b1 : decide (a0.size < 46) = false := decide_eq_false (by omega)
      clear c3
      (first | rw [c3b0] | (simp only [i64_w, i32_w]; rw [c3b0]) | skip)
      by_cases c4 : 0 ≤ 13
      · rw [if_pos c4] at H
        have c4b0 := eq_true c4
        have c4b1 : decide (0 ≤ 13) = true := decide_eq_true c4
        clear c4
        by_cases c5 : 13 ≤ (a0.size : Int)
        · rw [if_pos c5] at H
          have c5b0 := eq_true c5
          have c5b1 : decide (13 ≤ (a0.size : Int)) = true := decide_eq_true c5
          clear c5
          by_cases c6 : (a0.extract 0 13).toList = ([47, 100, 101, 112, 111, 116, 47, 115, 116, 111, 114, 101, 47] : List UInt8)
          · rw [if_pos c6] at H
            have c6b0 : ((a0.extract 0 13).toList == ([47, 100, 101, 112, 111, 116, 47, 115, 116, 111, 114, 101, 47] : List UInt8)) = true := beq_iff_eq.mpr c6
            have c6b1 : ((a0.extract 0 13).toList != ([47, 100, 101, 112, 111, 116, 47, 115, 116, 111, 114, 101, 47] : List UInt8)) = false := bne_eq_false_iff_eq.mpr c6
            clear c6
            by_cases c7 : 45 < (a0.size : Int)
            · rw [if_pos c7] at H
              have c7b0 : decide (45 < (a0.size : Int)) = true := decide_eq_true c7
              have c7b1 : decide (45 < a0.size) = true := decide_eq_true (by omega)
              clear c7
              have H' := Aside0.mk H
              clear H
              have p8 : 0 ≤ (45 : Int) := (by omega)
              have q8 : 45 < a0.size := (by have : (45 : Int) < (a0.size : Int) := of_decide_eq_true (by first | (with_reducible assumption) | assumption); omega)
              have hx8 : ∀ h : 45 < a0.size, ((a0[45]'h).toNat : Int) = bt a0 45 := bt_at a0 45
              clear p8
              have qi8 : (45 < (a0.size : Int)) = True := eq_true (of_decide_eq_true (by first | (with_reducible assumption) | assumption))
              replace q8 := eq_true q8
              go_wp2
              go_meet
              case rel => exact ⟨_, (((bt a0 45) != 45)), (by first | rfl | (simp; done) | (simp [*]; done)), H', ⟨by first | omega | exact Nat.le_refl _⟩, by repeat (first | exact Drawn0.refl _ | apply Drawn0.step)⟩
            · rw [if_neg c7] at H
              exact absurd H (by simp)
          · rw [if_neg c6] at H
            have c6b0 : ((a0.extract 0 13).toList == ([47, 100, 101, 112, 111, 116, 47, 115, 116, 111, 114, 101, 47] : List UInt8)) = false := beq_eq_false_iff_ne.mpr c6
            have c6b1 : ((a0.extract 0 13).toList != ([47, 100, 101, 112, 111, 116, 47, 115, 116, 111, 114, 101, 47] : List UInt8)) = true := bne_iff_ne.mpr c6
            have H' := Aside0.mk H
            clear H
            go_wp2
            go_meet
            case rel => exact ⟨_, (true), (by first | rfl | (simp; done) | (simp [*]; done)), H', ⟨by first | omega | exact Nat.le_refl _⟩, by repeat (first | exact Drawn0.refl _ | apply Drawn0.step)⟩
        · rw [if_neg c5] at H
          exact absurd H (by simp)
      · rw [if_neg c4] at H
        exact absurd H (by simp)
  case rest =>
    clear HC2
    try clear p2
    try clear c3
    try clear c3b0
    try clear c3b1
    try clear c4
    try clear c4b0
    try clear c4b1
    try clear c5
    try clear c5b0
    try clear c5b1
    try clear c6
    try clear c6b0
    try clear c6b1
    try clear c7
    try clear c7b0
    try clear c7b1
    try clear p8
    try clear q8
    try clear hx8
    try clear qi8
    try clear p8
    try clear q8
    obtain ⟨kq, x20_1, rfl, HA, HJ1, ⟨mc1, rfl⟩⟩ := hcut
    cases kq with
    | zero => exact absurd HA.out (by simp [depotref13_Parse.j0])
    | succ kj1 =>
      have H := HA.out
      clear HA
      simp only [depotref13_Parse.j0] at H
      by_cases c9 : x20_1 = true
      · subst c9
        have H1 : (some ((⟨#[]⟩ : ByteArray), (⟨#[]⟩ : ByteArray), 132)) = some (r1, r2, r3) := by rw [if_pos rfl] at H; exact H
        clear H
        have H := H1
        clear H1
        simp only [Option.some.injEq, Prod.mk.injEq] at H
        obtain ⟨rfl, rfl, rfl⟩ := H
        go_wp2
        go_ret3
        exact ⟨by first | rfl | (simp; done) | (simp [*]; done), by repeat (first | exact Drawn0.refl _ | apply Drawn0.step)⟩
      · replace c9 := Bool.eq_false_iff.mpr c9
        subst c9
        have H1 : (if 13 ≤ 45 then (if 45 ≤ (a0.size : Int) then (if 46 ≤ (a0.size : Int) then ((depotref13_CheckHash.f kj1 (a0.extract 13 45)).bind fun t151 => (if t151 = 0 then ((depotref13_CheckLabel.f kj1 (a0.extract 46 a0.size)).bind fun t152 => (if t152 = 0 then (some (a0.extract 13 45, a0.extract 46 a0.size, 0)) else (some ((⟨#[]⟩ : ByteArray), (⟨#[]⟩ : ByteArray), t152)))) else (some ((⟨#[]⟩ : ByteArray), (⟨#[]⟩ : ByteArray), t151)))) else (none)) else (none)) else (none)) = some (r1, r2, r3) := by rw [if_neg (show ¬ (false = true) by decide)] at H; exact H
        clear H
        have H := H1
        clear H1
        by_cases c10 : 13 ≤ 45
        · rw [if_pos c10] at H
          have c10b0 := eq_true c10
          have c10b1 : decide (13 ≤ 45) = true := decide_eq_true c10
          clear c10
          by_cases c11 : 45 ≤ (a0.size : Int)
          · rw [if_pos c11] at H
            have c11b0 := eq_true c11
            have c11b1 : decide (45 ≤ (a0.size : Int)) = true := decide_eq_true c11
            clear c11
            by_cases c12 : 46 ≤ (a0.size : Int)
            · rw [if_pos c12] at H
              have c12b0 := eq_true c12
              have c12b1 : decide (46 ≤ (a0.size : Int)) = true := decide_eq_true c12
              clear c12
              replace H := Option.bind_eq_some_iff.mp H
              obtain ⟨t151, A130, H⟩ := H
              replace H : (if t151 = 0 then ((depotref13_CheckLabel.f kj1 (a0.extract 46 a0.size)).bind fun t152 => (if t152 = 0 then (some (a0.extract 13 45, a0.extract 46 a0.size, 0)) else (some ((⟨#[]⟩ : ByteArray), (⟨#[]⟩ : ByteArray), t152)))) else (some ((⟨#[]⟩ : ByteArray), (⟨#[]⟩ : ByteArray), t151))) = some (r1, r2, r3) := H
              have A13 := Aside0.mk A130
              clear A130
              by_cases c14 : t151 = 0
              · rw [if_pos c14] at H
                have c14b0 : (t151 == 0) = true := beq_iff_eq.mpr c14
                have c14b1 : (t151 != 0) = false := bne_eq_false_iff_eq.mpr c14
                clear c14
                replace H := Option.bind_eq_some_iff.mp H
                obtain ⟨t152, A150, H⟩ := H
                replace H : (if t152 = 0 then (some (a0.extract 13 45, a0.extract 46 a0.size, 0)) else (some ((⟨#[]⟩ : ByteArray), (⟨#[]⟩ : ByteArray), t152))) = some (r1, r2, r3) := H
                have A15 := Aside0.mk A150
                clear A150
                by_cases c16 : t152 = 0
                · rw [if_pos c16] at H
                  have c16b0 : (t152 == 0) = true := beq_iff_eq.mpr c16
                  have c16b1 : (t152 != 0) = false := bne_eq_false_iff_eq.mpr c16
                  clear c16
                  simp only [Option.some.injEq, Prod.mk.injEq] at H
                  obtain ⟨rfl, rfl, rfl⟩ := H
                  go_wp2_with (first | ((with_reducible refine gate_callee (f := 64) rfl ?_); refine goesL_ (some 26) rfl rfl Tryd.func64 (by kernel_rfl) rfl #[.string (a0.extract 13 45)] rfl (by (try simp only [List.map_toArray, List.map_cons, List.map_nil]); first | done | rfl | (simp only [List.length_drop, List.length_take]; rfl)) ?_; (with_reducible refine (depotref13_CheckHash.calls kj1 (a0.extract 13 45) t151 _ A13.out).mono ?_); rintro e w' ⟨rfl, ⟨nd, rfl⟩⟩; refine ⟨_, rfl, ?_⟩) | ((with_reducible refine gate_callee (f := 21) rfl ?_); refine goesL_ (some 30) rfl rfl Tryd.func21 (by kernel_rfl) rfl #[.string (a0.extract 46 a0.size)] rfl (by (try simp only [List.map_toArray, List.map_cons, List.map_nil]); first | done | rfl | (simp only [List.length_drop, List.length_take]; rfl)) ?_; (with_reducible refine (depotref13_CheckLabel.calls kj1 (a0.extract 46 a0.size) t152 _ A15.out).mono ?_); rintro e w' ⟨rfl, ⟨nd, rfl⟩⟩; refine ⟨_, rfl, ?_⟩))
                  go_ret3
                  exact ⟨by first | rfl | (simp; done) | (simp [*]; done), by repeat (first | exact Drawn0.refl _ | apply Drawn0.step)⟩
                · rw [if_neg c16] at H
                  have c16b0 : (t152 == 0) = false := beq_eq_false_iff_ne.mpr c16
                  have c16b1 : (t152 != 0) = true := bne_iff_ne.mpr c16
                  simp only [Option.some.injEq, Prod.mk.injEq] at H
                  obtain ⟨rfl, rfl, rfl⟩ := H
                  go_wp2_with (first | ((with_reducible refine gate_callee (f := 64) rfl ?_); refine goesL_ (some 26) rfl rfl Tryd.func64 (by kernel_rfl) rfl #[.string (a0.extract 13 45)] rfl (by (try simp only [List.map_toArray, List.map_cons, List.map_nil]); first | done | rfl | (simp only [List.length_drop, List.length_take]; rfl)) ?_; (with_reducible refine (depotref13_CheckHash.calls kj1 (a0.extract 13 45) t151 _ A13.out).mono ?_); rintro e w' ⟨rfl, ⟨nd, rfl⟩⟩; refine ⟨_, rfl, ?_⟩) | ((with_reducible refine gate_callee (f := 21) rfl ?_); refine goesL_ (some 30) rfl rfl Tryd.func21 (by kernel_rfl) rfl #[.string (a0.extract 46 a0.size)] rfl (by (try simp only [List.map_toArray, List.map_cons, List.map_nil]); first | done | rfl | (simp only [List.length_drop, List.length_take]; rfl)) ?_; (with_reducible refine (depotref13_CheckLabel.calls kj1 (a0.extract 46 a0.size) t152 _ A15.out).mono ?_); rintro e w' ⟨rfl, ⟨nd, rfl⟩⟩; refine ⟨_, rfl, ?_⟩))
                  go_ret3
                  exact ⟨by first | rfl | (simp; done) | (simp [*]; done), by repeat (first | exact Drawn0.refl _ | apply Drawn0.step)⟩
              · rw [if_neg c14] at H
                have c14b0 : (t151 == 0) = false := beq_eq_false_iff_ne.mpr c14
                have c14b1 : (t151 != 0) = true := bne_iff_ne.mpr c14
                simp only [Option.some.injEq, Prod.mk.injEq] at H
                obtain ⟨rfl, rfl, rfl⟩ := H
                go_wp2_with (first | ((with_reducible refine gate_callee (f := 64) rfl ?_); refine goesL_ (some 26) rfl rfl Tryd.func64 (by kernel_rfl) rfl #[.string (a0.extract 13 45)] rfl (by (try simp only [List.map_toArray, List.map_cons, List.map_nil]); first | done | rfl | (simp only [List.length_drop, List.length_take]; rfl)) ?_; (with_reducible refine (depotref13_CheckHash.calls kj1 (a0.extract 13 45) t151 _ A13.out).mono ?_); rintro e w' ⟨rfl, ⟨nd, rfl⟩⟩; refine ⟨_, rfl, ?_⟩))
                go_ret3
                exact ⟨by first | rfl | (simp; done) | (simp [*]; done), by repeat (first | exact Drawn0.refl _ | apply Drawn0.step)⟩
            · rw [if_neg c12] at H
              exact absurd H (by simp)
          · rw [if_neg c11] at H
            exact absurd H (by simp)
        · rw [if_neg c10] at H
          exact absurd H (by simp)

end Go.Proofs.YtglhbbijoeeclaaDoor.Q
