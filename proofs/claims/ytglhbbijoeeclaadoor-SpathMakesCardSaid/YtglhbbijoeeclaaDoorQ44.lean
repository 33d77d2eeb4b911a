/- By a program of this session's: a plain Lean function for a Go function, and its contract. -/
import Derived.Test.YtglhbbijoeeclaaDoorQ0
namespace Go.Proofs.YtglhbbijoeeclaaDoor.Q
open Go.RowKit Go.Proofs.YtglhbbijoeeclaaDoorW.PrintWords Go.Proofs.YtglhbbijoeeclaaDoorW.PrintLast Go.Proofs.YtglhbbijoeeclaaDoorW.PrintMore
attribute [local go_sem] max2_int min2_int max_two min_two max_three min_three max_four min_four Go.Proofs.YtglhbbijoeeclaaDoor.Ord.str_leq Go.Proofs.YtglhbbijoeeclaaDoor.Ord.str_gtr Go.Proofs.YtglhbbijoeeclaaDoor.Ord.str_geq   -- for this text's walks alone
set_option linter.unusedVariables false
set_option linter.unusedSimpArgs false

/-! ### depotref01_Pad: function 38 -/
mutual
def depotref01_Pad.l0 : Nat → Int → ByteArray → Option (ByteArray)
  | 0, _, _ => none
  | k + 1, x0, x3 => if (Int.tmod (wrap64 ((Int.tmod x0 64) + (x3.size : Int))) 64) = 56 then (depotref01_Pad.l1 k x3 (IntKind.u64.wrap ((IntKind.u64.wrap (x0)) * 8)) 7) else (if x3.size + 1 ≤ 9223372036854775807 then (depotref01_Pad.l0 k x0 (x3 ++ (⟨#[0]⟩ : ByteArray))) else (none))
def depotref01_Pad.l1 : Nat → ByteArray → Int → Int → Option (ByteArray)
  | 0, _, _, _ => none
  | k + 1, x3, x4, x5 => if x5 ≥ 0 then (if 0 ≤ (IntKind.u64.wrap (wrap64 (8 * x5))) then ((some (([(Go.bits .and .u64 (shr .u64 x4 (IntKind.u64.wrap (wrap64 (8 * x5)))) 255) % 256] : List Int) : List Int)).bind fun y160 => (if x3.size + (strOfNums y160).size ≤ 9223372036854775807 then (depotref01_Pad.l1 k (x3 ++ (strOfNums y160)) x4 (wrap64 (x5 - 1))) else (none))) else (none)) else (some x3)
end
def depotref01_Pad.f (k : Nat) (a0 : Int) : Option (ByteArray) := if a0 < 0 then (some (⟨#[]⟩ : ByteArray)) else (depotref01_Pad.l0 k a0 (⟨#[128]⟩ : ByteArray))
theorem depotref01_Pad.mono_l : ∀ k, (∀ y0 y1, LeO (depotref01_Pad.l0 k y0 y1) (depotref01_Pad.l0 (k + 1) y0 y1)) ∧ (∀ y0 y1 y2, LeO (depotref01_Pad.l1 k y0 y1 y2) (depotref01_Pad.l1 (k + 1) y0 y1 y2))
  | 0 => ⟨fun _ _ r h => by simp [depotref01_Pad.l0] at h, fun _ _ _ r h => by simp [depotref01_Pad.l1] at h⟩
  | k + 1 => by
    obtain ⟨ih0, ih1⟩ := depotref01_Pad.mono_l k
    refine ⟨?_, ?_⟩
    · intro y0 y1
      unfold depotref01_Pad.l0
      repeat' first
      | (with_reducible exact ih0 _ _)
      | (with_reducible exact ih1 _ _ _)
      | (with_reducible exact LeO.refl _)
      | (with_reducible exact LeO.none _)
      | (with_reducible refine LeO.ite ?_ ?_)
      | (with_reducible refine LeO.bind ?_ (fun _ => ?_))
      | exact ih0 _ _
      | exact ih1 _ _ _
      | exact LeO.none _
      | refine LeO.ite ?_ ?_
      | refine LeO.bind ?_ (fun _ => ?_)
    · intro y0 y1 y2
      unfold depotref01_Pad.l1
      repeat' first
      | (with_reducible exact ih0 _ _)
      | (with_reducible exact ih1 _ _ _)
      | (with_reducible exact LeO.refl _)
      | (with_reducible exact LeO.none _)
      | (with_reducible refine LeO.ite ?_ ?_)
      | (with_reducible refine LeO.bind ?_ (fun _ => ?_))
      | exact ih0 _ _
      | exact ih1 _ _ _
      | exact LeO.none _
      | refine LeO.ite ?_ ?_
      | refine LeO.bind ?_ (fun _ => ?_)
theorem depotref01_Pad.mono : ∀ a0 k, LeO (depotref01_Pad.f k a0) (depotref01_Pad.f (k + 1) a0) := by
  intro a0 k
  obtain ⟨ih0, ih1⟩ := depotref01_Pad.mono_l k
  unfold depotref01_Pad.f
  repeat' first
      | (with_reducible exact ih0 _ _)
      | (with_reducible exact ih1 _ _ _)
      | (with_reducible exact LeO.refl _)
      | (with_reducible exact LeO.none _)
      | (with_reducible refine LeO.ite ?_ ?_)
      | (with_reducible refine LeO.bind ?_ (fun _ => ?_))
      | exact ih0 _ _
      | exact ih1 _ _ _
      | exact LeO.none _
      | refine LeO.ite ?_ ?_
      | refine LeO.bind ?_ (fun _ => ?_)
set_option maxHeartbeats 8000000 in
set_option maxRecDepth 100000 in
theorem depotref01_Pad.calls (k : Nat) (a0 : Int) (r : ByteArray) (w : World) (h : depotref01_Pad.f k a0 = some r) :
    Calls Tryd.prog 38 #[.int .i64 a0] w fun e w' => e = .returned (.string r) ∧ Below w.heap.size w w' := by
  have HB := Aside0.mk (Below.refl w.heap.size w)
  have H : (if a0 < 0 then (some (⟨#[]⟩ : ByteArray)) else (depotref01_Pad.l0 k a0 (⟨#[128]⟩ : ByteArray))) = some r := h
  clear h
  by_cases c2 : a0 < 0
  · rw [if_pos c2] at H
    have c2b0 : decide (a0 < 0) = true := decide_eq_true c2
    clear c2
    obtain rfl := Option.some.inj H
    go_enter Tryd.func38, Tryd.ntmps38
    go_wp2
    go_ret
    exact ⟨by first | rfl | (simp [errW_none, errW_some] <;> rfl) | (simp [*, errW_none, errW_some] <;> rfl), by repeat (first | (with_reducible first | exact HB.out | apply below_alloc | apply pw_below_drewN | apply below_drew1) | exact HB.out)⟩
  · rw [if_neg c2] at H
    have c2b0 : decide (a0 < 0) = false := decide_eq_false c2
    clear c2
    have H' := Aside0.mk H
    clear H
    go_enter Tryd.func38, Tryd.ntmps38
    go_wp2
    go_loopg [3] k (fun kq v3 w' => ∃ (x3_1 : ByteArray), v3 = .string x3_1 ∧ Aside0 (depotref01_Pad.l0 kq a0 x3_1 = some r) ∧ Aside0 (kq ≤ k) ∧ Aside0 (Below w.heap.size w w'))
    case atStart => exact ⟨((⟨#[128]⟩ : ByteArray)), (by first | rfl | (simp; done) | (simp [*]; done)), H', ⟨Nat.le_refl _⟩, ⟨by repeat (first | (with_reducible first | exact HB.out | apply below_alloc | apply pw_below_drewN | apply below_drew1) | exact HB.out)⟩⟩
    case round =>
      clear H'
      try clear c2
      try clear c2b0
      try clear p2
      obtain ⟨x3_1, rfl, HA, HK1, HB⟩ := hrel
      cases gk with
      | zero => exact absurd HA.out (by simp [depotref01_Pad.l0])
      | succ k1 =>
        have H := HA.out
        clear HA
        simp only [depotref01_Pad.l0] at H
        by_cases c3 : (Int.tmod (wrap64 ((Int.tmod a0 64) + (x3_1.size : Int))) 64) = 56
        · rw [if_pos c3] at H
          have c3b0 : ((Int.tmod (wrap64 ((Int.tmod a0 64) + (x3_1.size : Int))) 64) == 56) = true := beq_iff_eq.mpr c3
          have c3b1 : ((Int.tmod (wrap64 ((Int.tmod a0 64) + (x3_1.size : Int))) 64) != 56) = false := bne_eq_false_iff_eq.mpr c3
          clear c3
          have H' := Aside0.mk H
          clear H
          go_wp2
          go_loopg [3, 5] k1 (fun kq v3 v5 w' => ∃ (x3_2 : ByteArray) (x5_2 : Int), v3 = .string x3_2 ∧ v5 = .int .i64 x5_2 ∧ Aside0 (depotref01_Pad.l1 kq x3_2 (IntKind.u64.wrap ((IntKind.u64.wrap (a0)) * 8)) x5_2 = some r) ∧ Aside0 (kq ≤ k1) ∧ Aside0 (Below w.heap.size w w'))
          case atStart => exact ⟨(x3_1), (7), (by first | rfl | (simp; done) | (simp [*]; done)), (by first | rfl | (simp; done) | (simp [*]; done)), H', ⟨Nat.le_refl _⟩, ⟨by repeat (first | (with_reducible first | exact HB.out | apply below_alloc | apply pw_below_drewN | apply below_drew1) | exact HB.out)⟩⟩
          case round =>
            clear H'
            try clear c2
            try clear c2b0
            try clear p2
            try clear c3
            try clear c3b0
            try clear c3b1
            try clear p2
            obtain ⟨x3_2, x5_2, rfl, rfl, HA, HK2, HB⟩ := hrel
            cases gk with
            | zero => exact absurd HA.out (by simp [depotref01_Pad.l1])
            | succ k2 =>
              have H := HA.out
              clear HA
              simp only [depotref01_Pad.l1] at H
              by_cases c4 : x5_2 ≥ 0
              · rw [if_pos c4] at H
                have c4b0 : decide (0 ≤ x5_2) = true := decide_eq_true c4
                clear c4
                obtain ⟨ji5, hji5⟩ : ∃ j_ : Int, (IntKind.u64.wrap (wrap64 (8 * x5_2))) = j_ := ⟨_, rfl⟩
                replace H : (if 0 ≤ (ji5) then ((some (([(Go.bits .and .u64 (shr .u64 (IntKind.u64.wrap ((IntKind.u64.wrap (a0)) * 8)) (ji5)) 255) % 256] : List Int) : List Int)).bind fun y160 => (if x3_2.size + (strOfNums y160).size ≤ 9223372036854775807 then (depotref01_Pad.l1 k2 (x3_2 ++ (strOfNums y160)) (IntKind.u64.wrap ((IntKind.u64.wrap (a0)) * 8)) (wrap64 (x5_2 - 1))) else (none))) else (none)) = some r := by first | (rw [hji5] at H; exact H) | (simp only [hji5] at H ⊢; exact H)
                by_cases c6 : 0 ≤ (ji5)
                · rw [if_pos c6] at H
                  have c6b0 := eq_true c6
                  have c6b1 : decide (0 ≤ (ji5)) = true := decide_eq_true c6
                  clear c6
                  obtain ⟨ji7, hji7⟩ : ∃ j_ : Int, (shr .u64 (IntKind.u64.wrap ((IntKind.u64.wrap (a0)) * 8)) (ji5)) = j_ := ⟨_, rfl⟩
                  replace H : ((some (([(Go.bits .and .u64 (ji7) 255) % 256] : List Int) : List Int)).bind fun y160 => (if x3_2.size + (strOfNums y160).size ≤ 9223372036854775807 then (depotref01_Pad.l1 k2 (x3_2 ++ (strOfNums y160)) (IntKind.u64.wrap ((IntKind.u64.wrap (a0)) * 8)) (wrap64 (x5_2 - 1))) else (none))) = some r := by first | (rw [hji7] at H; exact H) | (simp only [hji7] at H ⊢; exact H)
                  have hji7_ : ((IntKind.u64.wrap ((IntKind.u64.wrap (a0)) * 8)) / 2 ^ min (ji5).toNat 64) = ji7 := hji7
                  have hji7z : (ji5) ≤ 64 → ((IntKind.u64.wrap ((IntKind.u64.wrap (a0)) * 8)) / 2 ^ (ji5).toNat) = ji7 := shr_small hji7
                  obtain ⟨y160, hy160⟩ : ∃ y_ : List Int, y_ = (([(Go.bits .and .u64 (ji7) 255) % 256] : List Int)) := ⟨_, rfl⟩
                  replace H : (if x3_2.size + (strOfNums y160).size ≤ 9223372036854775807 then (depotref01_Pad.l1 k2 (x3_2 ++ (strOfNums y160)) (IntKind.u64.wrap ((IntKind.u64.wrap (a0)) * 8)) (wrap64 (x5_2 - 1))) else (none)) = some r := by first | (rw [hy160]; with_reducible exact H) | (have H2_ := (Option.bind_some _ _).symm.trans H; rw [hy160]; with_reducible exact H2_) | (have H2_ := (Option.bind_some _ _).symm.trans H; with_reducible exact H2_) | with_reducible exact H | (rw [hy160]; exact H) | exact H
                  have Ny160 := Aside0.mk hy160
                  clear hy160
                  by_cases c8 : x3_2.size + (strOfNums y160).size ≤ 9223372036854775807
                  · rw [if_pos c8] at H
                    have c8b0 := eq_true c8
                    have c8b1 : decide (x3_2.size + (strOfNums y160).size ≤ 9223372036854775807) = true := decide_eq_true c8
                    try have c8b2 : (9223372036854775807 < x3_2.size + (strOfNums y160).size) = False := eq_false (Nat.not_lt.2 c8)
                    have H' := Aside0.mk H
                    clear H
                    go_wp2_with (first | ((with_reducible refine gate_dst (N := 32) rfl ?_); refine Kd.R_lit (Kd.int .u8) _ 5 ?hg (N := 32) ?hd (xs := ([(Go.bits .and .u64 (ji7) 255) % 256] : List Int)) (inner := [.int .u8 ((Go.bits .and .u64 (ji7) 255) % 256)]) (ok := fun _ => True) (okp := fun _ => True) ?hr ?hp (fun _ hk => hk) trivial (Below.refl _ _) (Nat.le_refl _) (by simp) ?_; (case hd => rfl); (case hg => rfl); (case hr => first | (go_simp; done) | (go_simp; rfl)); (case hp => exact (Reps.one (show Kd.M (Kd.int .u8) _ _ _ ((Go.bits .and .u64 (ji7) 255) % 256) [.int .u8 ((Go.bits .and .u64 (ji7) 255) % 256)] from rfl) (Reps.none _ _))); intro v161 w9 ho10 hb hg_ hnew_; clear hg_ hnew_; (first | rw [← Ny160.out] at ho10 | (simp only [Int.reduceToNat] at ho10; rw [← Ny160.out] at ho10)); have n0_ := Aside0.mk (Kd.R_lower ho10 (below_size (by repeat (first | (with_reducible first | exact HB.out | apply below_alloc | apply pw_below_drewN | apply below_drew1) | exact HB.out)))); have n1_ := Aside0.mk (below_step (by repeat (first | (with_reducible first | exact HB.out | apply below_alloc | apply pw_below_drewN | apply below_drew1) | exact HB.out)) hb); clear HB; have HO162 := n0_; have HB := n1_; clear n0_ n1_; clear hb ho10; have hcv11 := own_string (P := Tryd.prog) Tryd.underlying34 Tryd.underlying5 Tryd.underlying9 (Kd.own_of_R HO162.out)))
                    go_roundg k2
                    case measure => have := HK1.out; have := HK2.out; omega
                    case rel => exact ⟨(x3_2 ++ (strOfNums y160)), (wrap64 (x5_2 - 1)), (by first | rfl | (simp; done) | (simp [*]; done)), (by first | rfl | (simp; done) | (simp [*]; done)), H', ⟨by have := HK1.out; have := HK2.out; omega⟩, ⟨by repeat (first | (with_reducible first | exact HB.out | apply below_alloc | apply pw_below_drewN | apply below_drew1) | exact HB.out)⟩⟩
                  · rw [if_neg c8] at H
                    exact absurd H (by simp)
                · rw [if_neg c6] at H
                  exact absurd H (by simp)
              · rw [if_neg c4] at H
                have c4b0 : decide (0 ≤ x5_2) = false := decide_eq_false c4
                clear c4
                obtain rfl := Option.some.inj H
                go_wp2
                go_ret
                exact ⟨by first | rfl | (simp [errW_none, errW_some] <;> rfl) | (simp [*, errW_none, errW_some] <;> rfl), by repeat (first | (with_reducible first | exact HB.out | apply below_alloc | apply pw_below_drewN | apply below_drew1) | exact HB.out)⟩
        · rw [if_neg c3] at H
          have c3b0 : ((Int.tmod (wrap64 ((Int.tmod a0 64) + (x3_1.size : Int))) 64) == 56) = false := beq_eq_false_iff_ne.mpr c3
          have c3b1 : ((Int.tmod (wrap64 ((Int.tmod a0 64) + (x3_1.size : Int))) 64) != 56) = true := bne_iff_ne.mpr c3
          by_cases c12 : x3_1.size + 1 ≤ 9223372036854775807
          · rw [if_pos c12] at H
            have c12b0 := eq_true c12
            have c12b1 : decide (x3_1.size + 1 ≤ 9223372036854775807) = true := decide_eq_true c12
            try have c12b2 : (9223372036854775807 < x3_1.size + 1) = False := eq_false (Nat.not_lt.2 c12)
            have H' := Aside0.mk H
            clear H
            go_wp2
            go_roundg k1
            case measure => have := HK1.out; omega
            case rel => exact ⟨(x3_1 ++ (⟨#[0]⟩ : ByteArray)), (by first | rfl | (simp; done) | (simp [*]; done)), H', ⟨by have := HK1.out; omega⟩, ⟨by repeat (first | (with_reducible first | exact HB.out | apply below_alloc | apply pw_below_drewN | apply below_drew1) | exact HB.out)⟩⟩
          · rw [if_neg c12] at H
            exact absurd H (by simp)

end Go.Proofs.YtglhbbijoeeclaaDoor.Q
