/- By a program of this session's: a plain Lean function for a Go function, and its contract. -/
import Derived.Test.YtglhbbijoeeclaaQ0
import Derived.Test.YtglhbbijoeeclaaQ15
import Derived.Test.YtglhbbijoeeclaaQ16
import Derived.Test.YtglhbbijoeeclaaQ22
import Derived.Test.YtglhbbijoeeclaaQ26
import Derived.Test.YtglhbbijoeeclaaQ27
namespace Go.Proofs.Ytglhbbijoeeclaa.Q
open Go.RowKit Go.Proofs.YtglhbbijoeeclaaW.PrintWords Go.Proofs.YtglhbbijoeeclaaW.PrintLast Go.Proofs.YtglhbbijoeeclaaW.PrintMore
attribute [local go_sem] max2_int min2_int max_two min_two max_three min_three max_four min_four Go.Proofs.Ytglhbbijoeeclaa.Ord.str_leq Go.Proofs.Ytglhbbijoeeclaa.Ord.str_gtr Go.Proofs.Ytglhbbijoeeclaa.Ord.str_geq   -- for this text's walks alone
set_option linter.unusedVariables false
set_option linter.unusedSimpArgs false

/-! ### depotlaw13_SpathParses: function 5 -/
mutual
def depotlaw13_SpathParses.j0 : Nat → ByteArray → ByteArray → Int → Bool → Option (Bool)
  | 0, _, _, _, _ => none
  | k + 1, x0, x1, x10, x44 => if x44 = true then (some false) else ((spath_Base.f k x0).bind fun bt166 => (if bt166.2 = x10 then (if x10 = 0 then (if 13 ≤ (x0.size : Int) then (depotlaw13_SpathParses.j1 k x1 (bt166.1.toList != (x0.extract 13 x0.size).toList)) else (none)) else (if bt166.1.toList = ([] : List UInt8) then (depotlaw13_SpathParses.j1 k x1 false) else (depotlaw13_SpathParses.j1 k x1 true))) else (depotlaw13_SpathParses.j1 k x1 true)))
def depotlaw13_SpathParses.j1 : Nat → ByteArray → Bool → Option (Bool)
  | 0, _, _ => none
  | k + 1, x1, x70 => if x70 = true then (some false) else ((spath_Full.f k x1).bind fun bt168 => (if 13 + x1.size ≤ 9223372036854775807 then ((depotref13_Parse.f k ((⟨#[47, 100, 101, 112, 111, 116, 47, 115, 116, 111, 114, 101, 47]⟩ : ByteArray) ++ x1)).bind fun bt170 => (if bt168.2 = bt170.2.2 then (if bt170.2.2 = 0 then (some (bt168.1.toList == ((⟨#[47, 100, 101, 112, 111, 116, 47, 115, 116, 111, 114, 101, 47]⟩ : ByteArray) ++ x1).toList)) else (if bt168.1.toList = ([] : List UInt8) then (some true) else (some false))) else (some false))) else (none)))
end
def depotlaw13_SpathParses.f (k : Nat) (a0 : ByteArray) (a1 : ByteArray) : Option (Bool) := (depotlaw13_awake.f k).bind fun t159 => (if t159 = true then ((spath_Parse.f k a0).bind fun bt160 => ((depotref13_Parse.f k a0).bind fun bt163 => (if bt160.1.toList = bt163.1.toList then (if bt160.2.1.toList = bt163.2.1.toList then (depotlaw13_SpathParses.j0 k a0 a1 bt163.2.2 (bt160.2.2 != bt163.2.2)) else (depotlaw13_SpathParses.j0 k a0 a1 bt163.2.2 true)) else (depotlaw13_SpathParses.j0 k a0 a1 bt163.2.2 true)))) else (some false))
theorem depotlaw13_SpathParses.mono_l : ∀ k, (∀ y0 y1 y2 y3, LeO (depotlaw13_SpathParses.j0 k y0 y1 y2 y3) (depotlaw13_SpathParses.j0 (k + 1) y0 y1 y2 y3)) ∧ (∀ y0 y1, LeO (depotlaw13_SpathParses.j1 k y0 y1) (depotlaw13_SpathParses.j1 (k + 1) y0 y1))
  | 0 => ⟨fun _ _ _ _ r h => by simp [depotlaw13_SpathParses.j0] at h, fun _ _ r h => by simp [depotlaw13_SpathParses.j1] at h⟩
  | k + 1 => by
    obtain ⟨ih0, ih1⟩ := depotlaw13_SpathParses.mono_l k
    refine ⟨?_, ?_⟩
    · intro y0 y1 y2 y3
      unfold depotlaw13_SpathParses.j0
      repeat' first
      | (with_reducible exact ih0 _ _ _ _)
      | (with_reducible exact ih1 _ _)
      | (with_reducible exact depotlaw13_awake.mono _)
      | (with_reducible exact depotref13_Parse.mono _ _)
      | (with_reducible exact spath_Base.mono _ _)
      | (with_reducible exact spath_Full.mono _ _)
      | (with_reducible exact spath_Parse.mono _ _)
      | (with_reducible exact LeO.refl _)
      | (with_reducible exact LeO.none _)
      | (with_reducible refine LeO.ite ?_ ?_)
      | (with_reducible refine LeO.bind ?_ (fun _ => ?_))
      | exact ih0 _ _ _ _
      | exact ih1 _ _
      | exact depotlaw13_awake.mono _
      | exact depotref13_Parse.mono _ _
      | exact spath_Base.mono _ _
      | exact spath_Full.mono _ _
      | exact spath_Parse.mono _ _
      | exact LeO.none _
      | refine LeO.ite ?_ ?_
      | refine LeO.bind ?_ (fun _ => ?_)
    · intro y0 y1
      unfold depotlaw13_SpathParses.j1
      repeat' first
      | (with_reducible exact ih0 _ _ _ _)
      | (with_reducible exact ih1 _ _)
      | (with_reducible exact depotlaw13_awake.mono _)
      | (with_reducible exact depotref13_Parse.mono _ _)
      | (with_reducible exact spath_Base.mono _ _)
      | (with_reducible exact spath_Full.mono _ _)
      | (with_reducible exact spath_Parse.mono _ _)
      | (with_reducible exact LeO.refl _)
      | (with_reducible exact LeO.none _)
      | (with_reducible refine LeO.ite ?_ ?_)
      | (with_reducible refine LeO.bind ?_ (fun _ => ?_))
      | exact ih0 _ _ _ _
      | exact ih1 _ _
      | exact depotlaw13_awake.mono _
      | exact depotref13_Parse.mono _ _
      | exact spath_Base.mono _ _
      | exact spath_Full.mono _ _
      | exact spath_Parse.mono _ _
      | exact LeO.none _
      | refine LeO.ite ?_ ?_
      | refine LeO.bind ?_ (fun _ => ?_)
theorem depotlaw13_SpathParses.mono : ∀ a0 a1 k, LeO (depotlaw13_SpathParses.f k a0 a1) (depotlaw13_SpathParses.f (k + 1) a0 a1) := by
  intro a0 a1 k
  obtain ⟨ih0, ih1⟩ := depotlaw13_SpathParses.mono_l k
  unfold depotlaw13_SpathParses.f
  repeat' first
      | (with_reducible exact ih0 _ _ _ _)
      | (with_reducible exact ih1 _ _)
      | (with_reducible exact depotlaw13_awake.mono _)
      | (with_reducible exact depotref13_Parse.mono _ _)
      | (with_reducible exact spath_Base.mono _ _)
      | (with_reducible exact spath_Full.mono _ _)
      | (with_reducible exact spath_Parse.mono _ _)
      | (with_reducible exact LeO.refl _)
      | (with_reducible exact LeO.none _)
      | (with_reducible refine LeO.ite ?_ ?_)
      | (with_reducible refine LeO.bind ?_ (fun _ => ?_))
      | exact ih0 _ _ _ _
      | exact ih1 _ _
      | exact depotlaw13_awake.mono _
      | exact depotref13_Parse.mono _ _
      | exact spath_Base.mono _ _
      | exact spath_Full.mono _ _
      | exact spath_Parse.mono _ _
      | exact LeO.none _
      | refine LeO.ite ?_ ?_
      | refine LeO.bind ?_ (fun _ => ?_)
set_option maxHeartbeats 8000000 in
set_option maxRecDepth 100000 in
theorem depotlaw13_SpathParses.calls (k : Nat) (a0 : ByteArray) (a1 : ByteArray) (r : Bool) (w : World) (h : depotlaw13_SpathParses.f k a0 a1 = some r) :
    Calls Try.prog 5 #[.string a0, .string a1] w fun e w' => e = .returned (.bool r) ∧ Below w.heap.size w w' := by
  have HB := Aside0.mk (Below.refl w.heap.size w)
  have H : ((depotlaw13_awake.f k).bind fun t159 => (if t159 = true then ((spath_Parse.f k a0).bind fun bt160 => ((depotref13_Parse.f k a0).bind fun bt163 => (if bt160.1.toList = bt163.1.toList then (if bt160.2.1.toList = bt163.2.1.toList then (depotlaw13_SpathParses.j0 k a0 a1 bt163.2.2 (bt160.2.2 != bt163.2.2)) else (depotlaw13_SpathParses.j0 k a0 a1 bt163.2.2 true)) else (depotlaw13_SpathParses.j0 k a0 a1 bt163.2.2 true)))) else (some false))) = some r := h
  clear h
  replace H := Option.bind_eq_some_iff.mp H
  obtain ⟨t159, A30, H⟩ := H
  replace H : (if t159 = true then ((spath_Parse.f k a0).bind fun bt160 => ((depotref13_Parse.f k a0).bind fun bt163 => (if bt160.1.toList = bt163.1.toList then (if bt160.2.1.toList = bt163.2.1.toList then (depotlaw13_SpathParses.j0 k a0 a1 bt163.2.2 (bt160.2.2 != bt163.2.2)) else (depotlaw13_SpathParses.j0 k a0 a1 bt163.2.2 true)) else (depotlaw13_SpathParses.j0 k a0 a1 bt163.2.2 true)))) else (some false)) = some r := H
  have A3 := Aside0.mk A30
  clear A30
  by_cases c4 : t159 = true
  · subst c4
    have H1 : ((spath_Parse.f k a0).bind fun bt160 => ((depotref13_Parse.f k a0).bind fun bt163 => (if bt160.1.toList = bt163.1.toList then (if bt160.2.1.toList = bt163.2.1.toList then (depotlaw13_SpathParses.j0 k a0 a1 bt163.2.2 (bt160.2.2 != bt163.2.2)) else (depotlaw13_SpathParses.j0 k a0 a1 bt163.2.2 true)) else (depotlaw13_SpathParses.j0 k a0 a1 bt163.2.2 true)))) = some r := by rw [if_pos rfl] at H; exact H
    clear H
    have H := H1
    clear H1
    replace H := Option.bind_eq_some_iff.mp H
    obtain ⟨⟨t160, t161, t162⟩, A50, H⟩ := H
    replace H : ((depotref13_Parse.f k a0).bind fun bt163 => (if t160.toList = bt163.1.toList then (if t161.toList = bt163.2.1.toList then (depotlaw13_SpathParses.j0 k a0 a1 bt163.2.2 (t162 != bt163.2.2)) else (depotlaw13_SpathParses.j0 k a0 a1 bt163.2.2 true)) else (depotlaw13_SpathParses.j0 k a0 a1 bt163.2.2 true))) = some r := H
    have A5 := Aside0.mk A50
    clear A50
    replace H := Option.bind_eq_some_iff.mp H
    obtain ⟨⟨t163, t164, t165⟩, A60, H⟩ := H
    replace H : (if t160.toList = t163.toList then (if t161.toList = t164.toList then (depotlaw13_SpathParses.j0 k a0 a1 t165 (t162 != t165)) else (depotlaw13_SpathParses.j0 k a0 a1 t165 true)) else (depotlaw13_SpathParses.j0 k a0 a1 t165 true)) = some r := H
    have A6 := Aside0.mk A60
    clear A60
    have HC7 := Aside0.mk H
    clear H
    go_enter Try.func5, Try.ntmps5
    go_upto_region 5 with (first | ((with_reducible refine gate_callee (f := 7) rfl ?_); refine goesL_ (some 18) rfl rfl Try.func7 (by kernel_rfl) rfl #[] rfl (by (try simp only [List.map_toArray, List.map_cons, List.map_nil]); first | done | rfl | (simp only [List.length_drop, List.length_take]; rfl)) ?_; (with_reducible refine (depotlaw13_awake.calls k  true _ A3.out).mono ?_); rintro e w8 ⟨rfl, hb⟩; refine ⟨_, rfl, ?_⟩; have n0_ := Aside0.mk (below_step (by repeat (first | (with_reducible first | exact HB.out | apply below_alloc | apply pw_below_drewN | apply below_drew1) | exact HB.out)) hb); clear HB; have HB := n0_; clear n0_; (try clear hb); (try clear hb2); (try clear hk); (try clear hi)) | ((with_reducible refine gate_callee (f := 13) rfl ?_); refine goesL_ (some 22) rfl rfl Try.func13 (by kernel_rfl) rfl #[.string a0] rfl (by (try simp only [List.map_toArray, List.map_cons, List.map_nil]); first | done | rfl | (simp only [List.length_drop, List.length_take]; rfl)) ?_; (with_reducible refine (spath_Parse.calls k a0 t160 t161 t162 _ A5.out).mono ?_); rintro e w9 ⟨rfl, hb⟩; refine ⟨_, rfl, ?_⟩; have n0_ := Aside0.mk (below_step (by repeat (first | (with_reducible first | exact HB.out | apply below_alloc | apply pw_below_drewN | apply below_drew1) | exact HB.out)) hb); clear HB; have HB := n0_; clear n0_; (try clear hb); (try clear hb2); (try clear hk); (try clear hi)) | ((with_reducible refine gate_callee (f := 14) rfl ?_); refine goesL_ (some 28) rfl rfl Try.func14 (by kernel_rfl) rfl #[.string a0] rfl (by (try simp only [List.map_toArray, List.map_cons, List.map_nil]); first | done | rfl | (simp only [List.length_drop, List.length_take]; rfl)) ?_; (with_reducible refine (depotref13_Parse.calls k a0 t163 t164 t165 _ A6.out).mono ?_); rintro e w' ⟨rfl, ⟨nd, rfl⟩⟩; refine ⟨_, rfl, ?_⟩))
    (try simp only [Act.put, List.setIfInBounds_toArray, List.set_cons_zero, List.set_cons_succ])
    go_cut [44] (fun v44 wc => ∃ (kq : Nat) (x44_6 : Bool), v44 = .bool x44_6 ∧ Aside0 (depotlaw13_SpathParses.j0 kq a0 a1 t165 x44_6 = some r) ∧ Aside0 (kq ≤ k) ∧ Aside0 (Below w.heap.size w wc))
    case first =>
      have H := HC7.out
      clear HC7
      by_cases c10 : t160.toList = t163.toList
      · rw [if_pos c10] at H
        have c10b0 : (t160.toList == t163.toList) = true := beq_iff_eq.mpr c10
        have c10b1 : (t160.toList != t163.toList) = false := bne_eq_false_iff_eq.mpr c10
        clear c10
        (first | rw [c10b0] | (simp only [i64_w, i32_w]; rw [c10b0]) | skip)
        by_cases c11 : t161.toList = t164.toList
        · rw [if_pos c11] at H
          have c11b0 : (t161.toList == t164.toList) = true := beq_iff_eq.mpr c11
          have c11b1 : (t161.toList != t164.toList) = false := bne_eq_false_iff_eq.mpr c11
          clear c11
          have H' := Aside0.mk H
          clear H
          go_wp2
          go_meet
          case rel => exact ⟨_, ((t162 != t165)), (by first | rfl | (simp; done) | (simp [*]; done)), H', ⟨by first | omega | exact Nat.le_refl _⟩, ⟨by repeat (first | (with_reducible first | exact HB.out | apply below_alloc | apply pw_below_drewN | apply below_drew1) | exact HB.out)⟩⟩
        · rw [if_neg c11] at H
          have c11b0 : (t161.toList == t164.toList) = false := beq_eq_false_iff_ne.mpr c11
          have c11b1 : (t161.toList != t164.toList) = true := bne_iff_ne.mpr c11
          have H' := Aside0.mk H
          clear H
          go_wp2
          go_meet
          case rel => exact ⟨_, (true), (by first | rfl | (simp; done) | (simp [*]; done)), H', ⟨by first | omega | exact Nat.le_refl _⟩, ⟨by repeat (first | (with_reducible first | exact HB.out | apply below_alloc | apply pw_below_drewN | apply below_drew1) | exact HB.out)⟩⟩
      · rw [if_neg c10] at H
        have c10b0 : (t160.toList == t163.toList) = false := beq_eq_false_iff_ne.mpr c10
        have c10b1 : (t160.toList != t163.toList) = true := bne_iff_ne.mpr c10
        (first | rw [c10b0] | (simp only [i64_w, i32_w]; rw [c10b0]) | skip)
        have H' := Aside0.mk H
        clear H
        go_wp2
        go_meet
        case rel => exact ⟨_, (true), (by first | rfl | (simp; done) | (simp [*]; done)), H', ⟨by first | omega | exact Nat.le_refl _⟩, ⟨by repeat (first | (with_reducible first | exact HB.out | apply below_alloc | apply pw_below_drewN | apply below_drew1) | exact HB.out)⟩⟩
    case rest =>
      clear HC7
      try clear c1
      try clear p2
      try clear c4
      try clear c5
      try clear c7
      try clear c10
      try clear c10b0
      try clear c10b1
      try clear c11
      try clear c11b0
      try clear c11b1
      obtain ⟨kq, x44_6, rfl, HA, HJ6, HB⟩ := hcut
      cases kq with
      | zero => exact absurd HA.out (by simp [depotlaw13_SpathParses.j0])
      | succ kj6 =>
        have H := HA.out
        clear HA
        simp only [depotlaw13_SpathParses.j0] at H
        by_cases c12 : x44_6 = true
        · subst c12
          have H1 : (some false) = some r := by rw [if_pos rfl] at H; exact H
          clear H
          have H := H1
          clear H1
          obtain rfl := Option.some.inj H
          go_wp2
          go_ret
          exact ⟨by first | rfl | (simp [errW_none, errW_some] <;> rfl) | (simp [*, errW_none, errW_some] <;> rfl), by repeat (first | (with_reducible first | exact HB.out | apply below_alloc | apply pw_below_drewN | apply below_drew1) | exact HB.out)⟩
        · replace c12 := Bool.eq_false_iff.mpr c12
          subst c12
          have H1 : ((spath_Base.f kj6 a0).bind fun bt166 => (if bt166.2 = t165 then (if t165 = 0 then (if 13 ≤ (a0.size : Int) then (depotlaw13_SpathParses.j1 kj6 a1 (bt166.1.toList != (a0.extract 13 a0.size).toList)) else (none)) else (if bt166.1.toList = ([] : List UInt8) then (depotlaw13_SpathParses.j1 kj6 a1 false) else (depotlaw13_SpathParses.j1 kj6 a1 true))) else (depotlaw13_SpathParses.j1 kj6 a1 true))) = some r := by rw [if_neg (show ¬ (false = true) by decide)] at H; exact H
          clear H
          have H := H1
          clear H1
          replace H := Option.bind_eq_some_iff.mp H
          obtain ⟨⟨t166, t167⟩, A130, H⟩ := H
          replace H : (if t167 = t165 then (if t165 = 0 then (if 13 ≤ (a0.size : Int) then (depotlaw13_SpathParses.j1 kj6 a1 (t166.toList != (a0.extract 13 a0.size).toList)) else (none)) else (if t166.toList = ([] : List UInt8) then (depotlaw13_SpathParses.j1 kj6 a1 false) else (depotlaw13_SpathParses.j1 kj6 a1 true))) else (depotlaw13_SpathParses.j1 kj6 a1 true)) = some r := H
          have A13 := Aside0.mk A130
          clear A130
          have HC14 := Aside0.mk H
          clear H
          go_upto_region 8 with (first | ((with_reducible refine gate_callee (f := 15) rfl ?_); refine goesL_ (some 47) rfl rfl Try.func15 (by kernel_rfl) rfl #[.string a0] rfl (by (try simp only [List.map_toArray, List.map_cons, List.map_nil]); first | done | rfl | (simp only [List.length_drop, List.length_take]; rfl)) ?_; (with_reducible refine (spath_Base.calls kj6 a0 t166 t167 _ A13.out).mono ?_); rintro e w15 ⟨rfl, hb⟩; refine ⟨_, rfl, ?_⟩; have n0_ := Aside0.mk (below_step (by repeat (first | (with_reducible first | exact HB.out | apply below_alloc | apply pw_below_drewN | apply below_drew1) | exact HB.out)) hb); clear HB; have HB := n0_; clear n0_; (try clear hb); (try clear hb2); (try clear hk); (try clear hi)))
          (try simp only [Act.put, List.setIfInBounds_toArray, List.set_cons_zero, List.set_cons_succ])
          go_cut [70] (fun v70 wc => ∃ (kq : Nat) (x70_13 : Bool), v70 = .bool x70_13 ∧ Aside0 (depotlaw13_SpathParses.j1 kq a1 x70_13 = some r) ∧ Aside0 (kq ≤ kj6) ∧ Aside0 (Below w.heap.size w wc))
          case first =>
            have H := HC14.out
            clear HC14
            by_cases c16 : t167 = t165
            · rw [if_pos c16] at H
              have c16b0 : (t167 == t165) = true := beq_iff_eq.mpr c16
              have c16b1 : (t167 != t165) = false := bne_eq_false_iff_eq.mpr c16
              clear c16
              (first | rw [c16b0] | (simp only [i64_w, i32_w]; rw [c16b0]) | skip)
              by_cases c17 : t165 = 0
              · rw [if_pos c17] at H
                have c17b0 : (t165 == 0) = true := beq_iff_eq.mpr c17
                have c17b1 : (t165 != 0) = false := bne_eq_false_iff_eq.mpr c17
                clear c17
                by_cases c18 : 13 ≤ (a0.size : Int)
                · rw [if_pos c18] at H
                  have c18b0 := eq_true c18
                  have c18b1 : decide (13 ≤ (a0.size : Int)) = true := decide_eq_true c18
                  clear c18
                  have H' := Aside0.mk H
                  clear H
                  go_wp2
                  go_meet
                  case rel => exact ⟨_, ((t166.toList != (a0.extract 13 a0.size).toList)), (by first | rfl | (simp; done) | (simp [*]; done)), H', ⟨by have := HJ6.out; first | omega | exact Nat.le_refl _⟩, ⟨by repeat (first | (with_reducible first | exact HB.out | apply below_alloc | apply pw_below_drewN | apply below_drew1) | exact HB.out)⟩⟩
                · rw [if_neg c18] at H
                  exact absurd H (by simp)
              · rw [if_neg c17] at H
                have c17b0 : (t165 == 0) = false := beq_eq_false_iff_ne.mpr c17
                have c17b1 : (t165 != 0) = true := bne_iff_ne.mpr c17
                by_cases c19 : t166.toList = ([] : List UInt8)
                · rw [if_pos c19] at H
                  have c19b0 : (t166.toList == ([] : List UInt8)) = true := beq_iff_eq.mpr c19
                  have c19b1 : (t166.toList != ([] : List UInt8)) = false := bne_eq_false_iff_eq.mpr c19
                  clear c19
                  have H' := Aside0.mk H
                  clear H
                  go_wp2
                  go_meet
                  case rel => exact ⟨_, (false), (by first | rfl | (simp; done) | (simp [*]; done)), H', ⟨by have := HJ6.out; first | omega | exact Nat.le_refl _⟩, ⟨by repeat (first | (with_reducible first | exact HB.out | apply below_alloc | apply pw_below_drewN | apply below_drew1) | exact HB.out)⟩⟩
                · rw [if_neg c19] at H
                  have c19b0 : (t166.toList == ([] : List UInt8)) = false := beq_eq_false_iff_ne.mpr c19
                  have c19b1 : (t166.toList != ([] : List UInt8)) = true := bne_iff_ne.mpr c19
                  have H' := Aside0.mk H
                  clear H
                  go_wp2
                  go_meet
                  case rel => exact ⟨_, (true), (by first | rfl | (simp; done) | (simp [*]; done)), H', ⟨by have := HJ6.out; first | omega | exact Nat.le_refl _⟩, ⟨by repeat (first | (with_reducible first | exact HB.out | apply below_alloc | apply pw_below_drewN | apply below_drew1) | exact HB.out)⟩⟩
            · rw [if_neg c16] at H
              have c16b0 : (t167 == t165) = false := beq_eq_false_iff_ne.mpr c16
              have c16b1 : (t167 != t165) = true := bne_iff_ne.mpr c16
              (first | rw [c16b0] | (simp only [i64_w, i32_w]; rw [c16b0]) | skip)
              have H' := Aside0.mk H
              clear H
              go_wp2
              go_meet
              case rel => exact ⟨_, (true), (by first | rfl | (simp; done) | (simp [*]; done)), H', ⟨by have := HJ6.out; first | omega | exact Nat.le_refl _⟩, ⟨by repeat (first | (with_reducible first | exact HB.out | apply below_alloc | apply pw_below_drewN | apply below_drew1) | exact HB.out)⟩⟩
          case rest =>
            clear HC14
            try clear c1
            try clear p2
            try clear c4
            try clear c5
            try clear c7
            try clear c10
            try clear c10b0
            try clear c10b1
            try clear c11
            try clear c11b0
            try clear c11b1
            try clear c12
            try clear c13
            try clear c14
            try clear c15
            try clear c16
            try clear c16b0
            try clear c16b1
            try clear c17
            try clear c17b0
            try clear c17b1
            try clear c18
            try clear c18b0
            try clear c18b1
            try clear c19
            try clear c19b0
            try clear c19b1
            try clear p2
            obtain ⟨kq, x70_13, rfl, HA, HJ13, HB⟩ := hcut
            cases kq with
            | zero => exact absurd HA.out (by simp [depotlaw13_SpathParses.j1])
            | succ kj13 =>
              have H := HA.out
              clear HA
              simp only [depotlaw13_SpathParses.j1] at H
              by_cases c20 : x70_13 = true
              · subst c20
                have H1 : (some false) = some r := by rw [if_pos rfl] at H; exact H
                clear H
                have H := H1
                clear H1
                obtain rfl := Option.some.inj H
                go_wp2
                go_ret
                exact ⟨by first | rfl | (simp [errW_none, errW_some] <;> rfl) | (simp [*, errW_none, errW_some] <;> rfl), by repeat (first | (with_reducible first | exact HB.out | apply below_alloc | apply pw_below_drewN | apply below_drew1) | exact HB.out)⟩
              · replace c20 := Bool.eq_false_iff.mpr c20
                subst c20
                have H1 : ((spath_Full.f kj13 a1).bind fun bt168 => (if 13 + a1.size ≤ 9223372036854775807 then ((depotref13_Parse.f kj13 ((⟨#[47, 100, 101, 112, 111, 116, 47, 115, 116, 111, 114, 101, 47]⟩ : ByteArray) ++ a1)).bind fun bt170 => (if bt168.2 = bt170.2.2 then (if bt170.2.2 = 0 then (some (bt168.1.toList == ((⟨#[47, 100, 101, 112, 111, 116, 47, 115, 116, 111, 114, 101, 47]⟩ : ByteArray) ++ a1).toList)) else (if bt168.1.toList = ([] : List UInt8) then (some true) else (some false))) else (some false))) else (none))) = some r := by rw [if_neg (show ¬ (false = true) by decide)] at H; exact H
                clear H
                have H := H1
                clear H1
                replace H := Option.bind_eq_some_iff.mp H
                obtain ⟨⟨t168, t169⟩, A210, H⟩ := H
                replace H : (if 13 + a1.size ≤ 9223372036854775807 then ((depotref13_Parse.f kj13 ((⟨#[47, 100, 101, 112, 111, 116, 47, 115, 116, 111, 114, 101, 47]⟩ : ByteArray) ++ a1)).bind fun bt170 => (if t169 = bt170.2.2 then (if bt170.2.2 = 0 then (some (t168.toList == ((⟨#[47, 100, 101, 112, 111, 116, 47, 115, 116, 111, 114, 101, 47]⟩ : ByteArray) ++ a1).toList)) else (if t168.toList = ([] : List UInt8) then (some true) else (some false))) else (some false))) else (none)) = some r := H
                have A21 := Aside0.mk A210
                clear A210
                by_cases c22 : 13 + a1.size ≤ 9223372036854775807
                · rw [if_pos c22] at H
                  have c22b0 := eq_true c22
                  have c22b1 : decide (13 + a1.size ≤ 9223372036854775807) = true := decide_eq_true c22
                  try have c22b2 : (9223372036854775807 < 13 + a1.size) = False := eq_false (Nat.not_lt.2 c22)
                  replace H := Option.bind_eq_some_iff.mp H
                  obtain ⟨⟨t170, t171, t172⟩, A230, H⟩ := H
                  replace H : (if t169 = t172 then (if t172 = 0 then (some (t168.toList == ((⟨#[47, 100, 101, 112, 111, 116, 47, 115, 116, 111, 114, 101, 47]⟩ : ByteArray) ++ a1).toList)) else (if t168.toList = ([] : List UInt8) then (some true) else (some false))) else (some false)) = some r := H
                  have A23 := Aside0.mk A230
                  clear A230
                  by_cases c24 : t169 = t172
                  · rw [if_pos c24] at H
                    have c24b0 : (t169 == t172) = true := beq_iff_eq.mpr c24
                    have c24b1 : (t169 != t172) = false := bne_eq_false_iff_eq.mpr c24
                    clear c24
                    by_cases c25 : t172 = 0
                    · rw [if_pos c25] at H
                      have c25b0 : (t172 == 0) = true := beq_iff_eq.mpr c25
                      have c25b1 : (t172 != 0) = false := bne_eq_false_iff_eq.mpr c25
                      clear c25
                      obtain rfl := Option.some.inj H
                      go_wp2_with (first | ((with_reducible refine gate_callee (f := 16) rfl ?_); refine goesL_ (some 73) rfl rfl Try.func16 (by kernel_rfl) rfl #[.string a1] rfl (by (try simp only [List.map_toArray, List.map_cons, List.map_nil]); first | done | rfl | (simp only [List.length_drop, List.length_take]; rfl)) ?_; (with_reducible refine (spath_Full.calls kj13 a1 t168 t169 _ A21.out).mono ?_); rintro e w26 ⟨rfl, hb⟩; refine ⟨_, rfl, ?_⟩; have n0_ := Aside0.mk (below_step (by repeat (first | (with_reducible first | exact HB.out | apply below_alloc | apply pw_below_drewN | apply below_drew1) | exact HB.out)) hb); clear HB; have HB := n0_; clear n0_; (try clear hb); (try clear hb2); (try clear hk); (try clear hi)) | ((with_reducible refine gate_callee (f := 14) rfl ?_); refine goesL_ (some 79) rfl rfl Try.func14 (by kernel_rfl) rfl #[.string ((⟨#[47, 100, 101, 112, 111, 116, 47, 115, 116, 111, 114, 101, 47]⟩ : ByteArray) ++ a1)] rfl (by (try simp only [List.map_toArray, List.map_cons, List.map_nil]); first | done | rfl | (simp only [List.length_drop, List.length_take]; rfl)) ?_; (with_reducible refine (depotref13_Parse.calls kj13 ((⟨#[47, 100, 101, 112, 111, 116, 47, 115, 116, 111, 114, 101, 47]⟩ : ByteArray) ++ a1) t170 t171 t172 _ A23.out).mono ?_); rintro e w' ⟨rfl, ⟨nd, rfl⟩⟩; refine ⟨_, rfl, ?_⟩))
                      go_ret
                      exact ⟨by first | rfl | (simp [errW_none, errW_some] <;> rfl) | (simp [*, errW_none, errW_some] <;> rfl), by repeat (first | (with_reducible first | exact HB.out | apply below_alloc | apply pw_below_drewN | apply below_drew1) | exact HB.out)⟩
                    · rw [if_neg c25] at H
                      have c25b0 : (t172 == 0) = false := beq_eq_false_iff_ne.mpr c25
                      have c25b1 : (t172 != 0) = true := bne_iff_ne.mpr c25
                      by_cases c27 : t168.toList = ([] : List UInt8)
                      · rw [if_pos c27] at H
                        have c27b0 : (t168.toList == ([] : List UInt8)) = true := beq_iff_eq.mpr c27
                        have c27b1 : (t168.toList != ([] : List UInt8)) = false := bne_eq_false_iff_eq.mpr c27
                        clear c27
                        obtain rfl := Option.some.inj H
                        go_wp2_with (first | ((with_reducible refine gate_callee (f := 16) rfl ?_); refine goesL_ (some 73) rfl rfl Try.func16 (by kernel_rfl) rfl #[.string a1] rfl (by (try simp only [List.map_toArray, List.map_cons, List.map_nil]); first | done | rfl | (simp only [List.length_drop, List.length_take]; rfl)) ?_; (with_reducible refine (spath_Full.calls kj13 a1 t168 t169 _ A21.out).mono ?_); rintro e w28 ⟨rfl, hb⟩; refine ⟨_, rfl, ?_⟩; have n0_ := Aside0.mk (below_step (by repeat (first | (with_reducible first | exact HB.out | apply below_alloc | apply pw_below_drewN | apply below_drew1) | exact HB.out)) hb); clear HB; have HB := n0_; clear n0_; (try clear hb); (try clear hb2); (try clear hk); (try clear hi)) | ((with_reducible refine gate_callee (f := 14) rfl ?_); refine goesL_ (some 79) rfl rfl Try.func14 (by kernel_rfl) rfl #[.string ((⟨#[47, 100, 101, 112, 111, 116, 47, 115, 116, 111, 114, 101, 47]⟩ : ByteArray) ++ a1)] rfl (by (try simp only [List.map_toArray, List.map_cons, List.map_nil]); first | done | rfl | (simp only [List.length_drop, List.length_take]; rfl)) ?_; (with_reducible refine (depotref13_Parse.calls kj13 ((⟨#[47, 100, 101, 112, 111, 116, 47, 115, 116, 111, 114, 101, 47]⟩ : ByteArray) ++ a1) t170 t171 t172 _ A23.out).mono ?_); rintro e w' ⟨rfl, ⟨nd, rfl⟩⟩; refine ⟨_, rfl, ?_⟩))
                        go_ret
                        exact ⟨by first | rfl | (simp [errW_none, errW_some] <;> rfl) | (simp [*, errW_none, errW_some] <;> rfl), by repeat (first | (with_reducible first | exact HB.out | apply below_alloc | apply pw_below_drewN | apply below_drew1) | exact HB.out)⟩
                      · rw [if_neg c27] at H
                        have c27b0 : (t168.toList == ([] : List UInt8)) = false := beq_eq_false_iff_ne.mpr c27
                        have c27b1 : (t168.toList != ([] : List UInt8)) = true := bne_iff_ne.mpr c27
                        obtain rfl := Option.some.inj H
                        go_wp2_with (first | ((with_reducible refine gate_callee (f := 16) rfl ?_); refine goesL_ (some 73) rfl rfl Try.func16 (by kernel_rfl) rfl #[.string a1] rfl (by (try simp only [List.map_toArray, List.map_cons, List.map_nil]); first | done | rfl | (simp only [List.length_drop, List.length_take]; rfl)) ?_; (with_reducible refine (spath_Full.calls kj13 a1 t168 t169 _ A21.out).mono ?_); rintro e w29 ⟨rfl, hb⟩; refine ⟨_, rfl, ?_⟩; have n0_ := Aside0.mk (below_step (by repeat (first | (with_reducible first | exact HB.out | apply below_alloc | apply pw_below_drewN | apply below_drew1) | exact HB.out)) hb); clear HB; have HB := n0_; clear n0_; (try clear hb); (try clear hb2); (try clear hk); (try clear hi)) | ((with_reducible refine gate_callee (f := 14) rfl ?_); refine goesL_ (some 79) rfl rfl Try.func14 (by kernel_rfl) rfl #[.string ((⟨#[47, 100, 101, 112, 111, 116, 47, 115, 116, 111, 114, 101, 47]⟩ : ByteArray) ++ a1)] rfl (by (try simp only [List.map_toArray, List.map_cons, List.map_nil]); first | done | rfl | (simp only [List.length_drop, List.length_take]; rfl)) ?_; (with_reducible refine (depotref13_Parse.calls kj13 ((⟨#[47, 100, 101, 112, 111, 116, 47, 115, 116, 111, 114, 101, 47]⟩ : ByteArray) ++ a1) t170 t171 t172 _ A23.out).mono ?_); rintro e w' ⟨rfl, ⟨nd, rfl⟩⟩; refine ⟨_, rfl, ?_⟩))
                        go_ret
                        exact ⟨by first | rfl | (simp [errW_none, errW_some] <;> rfl) | (simp [*, errW_none, errW_some] <;> rfl), by repeat (first | (with_reducible first | exact HB.out | apply below_alloc | apply pw_below_drewN | apply below_drew1) | exact HB.out)⟩
                  · rw [if_neg c24] at H
                    have c24b0 : (t169 == t172) = false := beq_eq_false_iff_ne.mpr c24
                    have c24b1 : (t169 != t172) = true := bne_iff_ne.mpr c24
                    obtain rfl := Option.some.inj H
                    go_wp2_with (first | ((with_reducible refine gate_callee (f := 16) rfl ?_); refine goesL_ (some 73) rfl rfl Try.func16 (by kernel_rfl) rfl #[.string a1] rfl (by (try simp only [List.map_toArray, List.map_cons, List.map_nil]); first | done | rfl | (simp only [List.length_drop, List.length_take]; rfl)) ?_; (with_reducible refine (spath_Full.calls kj13 a1 t168 t169 _ A21.out).mono ?_); rintro e w30 ⟨rfl, hb⟩; refine ⟨_, rfl, ?_⟩; have n0_ := Aside0.mk (below_step (by repeat (first | (with_reducible first | exact HB.out | apply below_alloc | apply pw_below_drewN | apply below_drew1) | exact HB.out)) hb); clear HB; have HB := n0_; clear n0_; (try clear hb); (try clear hb2); (try clear hk); (try clear hi)) | ((with_reducible refine gate_callee (f := 14) rfl ?_); refine goesL_ (some 79) rfl rfl Try.func14 (by kernel_rfl) rfl #[.string ((⟨#[47, 100, 101, 112, 111, 116, 47, 115, 116, 111, 114, 101, 47]⟩ : ByteArray) ++ a1)] rfl (by (try simp only [List.map_toArray, List.map_cons, List.map_nil]); first | done | rfl | (simp only [List.length_drop, List.length_take]; rfl)) ?_; (with_reducible refine (depotref13_Parse.calls kj13 ((⟨#[47, 100, 101, 112, 111, 116, 47, 115, 116, 111, 114, 101, 47]⟩ : ByteArray) ++ a1) t170 t171 t172 _ A23.out).mono ?_); rintro e w' ⟨rfl, ⟨nd, rfl⟩⟩; refine ⟨_, rfl, ?_⟩))
                    go_ret
                    exact ⟨by first | rfl | (simp [errW_none, errW_some] <;> rfl) | (simp [*, errW_none, errW_some] <;> rfl), by repeat (first | (with_reducible first | exact HB.out | apply below_alloc | apply pw_below_drewN | apply below_drew1) | exact HB.out)⟩
                · rw [if_neg c22] at H
                  exact absurd H (by simp)
  · replace c4 := Bool.eq_false_iff.mpr c4
    subst c4
    have H1 : (some false) = some r := by rw [if_neg (show ¬ (false = true) by decide)] at H; exact H
    clear H
    have H := H1
    clear H1
    obtain rfl := Option.some.inj H
    go_enter Try.func5, Try.ntmps5
    go_wp2_with (first | ((with_reducible refine gate_callee (f := 7) rfl ?_); refine goesL_ (some 18) rfl rfl Try.func7 (by kernel_rfl) rfl #[] rfl (by (try simp only [List.map_toArray, List.map_cons, List.map_nil]); first | done | rfl | (simp only [List.length_drop, List.length_take]; rfl)) ?_; (with_reducible refine (depotlaw13_awake.calls k  false _ A3.out).mono ?_); rintro e w31 ⟨rfl, hb⟩; refine ⟨_, rfl, ?_⟩; have n0_ := Aside0.mk (below_step (by repeat (first | (with_reducible first | exact HB.out | apply below_alloc | apply pw_below_drewN | apply below_drew1) | exact HB.out)) hb); clear HB; have HB := n0_; clear n0_; (try clear hb); (try clear hb2); (try clear hk); (try clear hi)))
    go_ret
    exact ⟨by first | rfl | (simp [errW_none, errW_some] <;> rfl) | (simp [*, errW_none, errW_some] <;> rfl), by repeat (first | (with_reducible first | exact HB.out | apply below_alloc | apply pw_below_drewN | apply below_drew1) | exact HB.out)⟩

/-- THE ONE PURE STATEMENT of depotlaw13_SpathParses: yours. -/
def depotlaw13_SpathParses.Pure : Prop := ∀ (a0 : ByteArray) (a1 : ByteArray), a0.size ≤ 140737488351232 → a1.size ≤ 140737488351232 → ∃ k, depotlaw13_SpathParses.f k a0 a1 = some true
theorem depotlaw13_SpathParses.walk (P : depotlaw13_SpathParses.Pure) (a0 : ByteArray) (a1 : ByteArray) (w : World) (w0 : a0.size ≤ 140737488351232) (w1 : a1.size ≤ 140737488351232) :
    Calls Try.prog 5 #[.string a0, .string a1] w fun e w' => e = .returned (.bool true) ∧ Below w.heap.size w w' := by
  obtain ⟨k, h⟩ := P a0 a1 w0 w1
  refine (depotlaw13_SpathParses.calls k a0 a1 true w h).mono ?_
  rintro e w' ⟨rfl, hd⟩
  exact ⟨rfl, hd⟩

end Go.Proofs.Ytglhbbijoeeclaa.Q
