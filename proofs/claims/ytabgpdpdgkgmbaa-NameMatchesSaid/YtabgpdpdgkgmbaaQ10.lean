/- By a program of this session's: a plain Lean function for a Go function, and its contract. -/
import Derived.Test.YtabgpdpdgkgmbaaQ0
namespace Go.Proofs.Ytabgpdpdgkgmbaa.Q
open Go.RowKit Go.Proofs.YtabgpdpdgkgmbaaW.PrintWords Go.Proofs.YtabgpdpdgkgmbaaW.PrintLast Go.Proofs.YtabgpdpdgkgmbaaW.PrintMore
attribute [local go_sem] max2_int min2_int max_two min_two max_three min_three max_four min_four Go.Proofs.Ytabgpdpdgkgmbaa.Ord.str_leq Go.Proofs.Ytabgpdpdgkgmbaa.Ord.str_gtr Go.Proofs.Ytabgpdpdgkgmbaa.Ord.str_geq   -- for this text's walks alone
set_option linter.unusedVariables false
set_option linter.unusedSimpArgs false

/-! ### depotref05_Match: function 13 -/
mutual
def depotref05_Match.l0 : Nat → ByteArray → ByteArray → List Bool → Int → Option (Bool)
  | 0, _, _, _, _ => none
  | k + 1, x0, x1, x5, x6 => if x6 < (x0.size : Int) then (if 0 ≤ x6 then (if 0 ≤ (wrap64 ((x1.size : Int) + 1)) then (if (wrap64 ((x1.size : Int) + 1) : Int).toNat ≤ 281474976710656 then (depotref05_Match.l1 k x0 x1 x5 x6 (bt x0 x6) (List.replicate (wrap64 ((x1.size : Int) + 1) : Int).toNat false) 0) else (none)) else (none)) else (none)) else (if 0 ≤ (x1.size : Int) then (if (x1.size : Int) < (x5.length : Int) then (some (rdOf false x5 (x1.size : Int))) else (none)) else (none))
def depotref05_Match.l1 : Nat → ByteArray → ByteArray → List Bool → Int → Int → List Bool → Int → Option (Bool)
  | 0, _, _, _, _, _, _, _ => none
  | k + 1, x0, x1, x5, x6, x7, x8, x9 => if x9 ≤ (x1.size : Int) then (if x7 = 42 then (if 0 ≤ x9 then (if x9 < (x5.length : Int) then (if rdOf false x5 x9 = true then (if x9 < (x8.length : Int) then (depotref05_Match.l1 k x0 x1 x5 x6 x7 (x8.set (x9 : Int).toNat true) (wrap64 (x9 + 1))) else (none)) else (if x9 > 0 then (if 0 ≤ (wrap64 (x9 - 1)) then (if (wrap64 (x9 - 1)) < (x8.length : Int) then (if x9 < (x8.length : Int) then (depotref05_Match.l1 k x0 x1 x5 x6 x7 (x8.set (x9 : Int).toNat (rdOf false x8 (wrap64 (x9 - 1)))) (wrap64 (x9 + 1))) else (none)) else (none)) else (none)) else (if x9 < (x8.length : Int) then (depotref05_Match.l1 k x0 x1 x5 x6 x7 (x8.set (x9 : Int).toNat false) (wrap64 (x9 + 1))) else (none)))) else (none)) else (none)) else (if x9 > 0 then (if 0 ≤ (wrap64 (x9 - 1)) then (if (wrap64 (x9 - 1)) < (x5.length : Int) then (if rdOf false x5 (wrap64 (x9 - 1)) = true then (if x7 = 63 then (if 0 ≤ x9 then (if x9 < (x8.length : Int) then (depotref05_Match.l1 k x0 x1 x5 x6 x7 (x8.set (x9 : Int).toNat true) (wrap64 (x9 + 1))) else (none)) else (none)) else (if (wrap64 (x9 - 1)) < (x1.size : Int) then (if 0 ≤ x9 then (if x9 < (x8.length : Int) then (depotref05_Match.l1 k x0 x1 x5 x6 x7 (x8.set (x9 : Int).toNat (x7 == (bt x1 (wrap64 (x9 - 1))))) (wrap64 (x9 + 1))) else (none)) else (none)) else (none))) else (depotref05_Match.l1 k x0 x1 x5 x6 x7 x8 (wrap64 (x9 + 1)))) else (none)) else (none)) else (depotref05_Match.l1 k x0 x1 x5 x6 x7 x8 (wrap64 (x9 + 1))))) else (depotref05_Match.l0 k x0 x1 x8 (wrap64 (x6 + 1)))
end
def depotref05_Match.f (k : Nat) (a0 : ByteArray) (a1 : ByteArray) : Option (Bool) := if 0 ≤ (wrap64 ((a1.size : Int) + 1)) then (if (wrap64 ((a1.size : Int) + 1) : Int).toNat ≤ 281474976710656 then ((some (List.replicate (wrap64 ((a1.size : Int) + 1) : Int).toNat false : List Bool)).bind fun y123 => (if 0 < (y123.length : Int) then (depotref05_Match.l0 k a0 a1 (y123.set (0 : Int).toNat true) 0) else (none))) else (none)) else (none)
theorem depotref05_Match.mono_l : ∀ k, (∀ y0 y1 y2 y3, LeO (depotref05_Match.l0 k y0 y1 y2 y3) (depotref05_Match.l0 (k + 1) y0 y1 y2 y3)) ∧ (∀ y0 y1 y2 y3 y4 y5 y6, LeO (depotref05_Match.l1 k y0 y1 y2 y3 y4 y5 y6) (depotref05_Match.l1 (k + 1) y0 y1 y2 y3 y4 y5 y6))
  | 0 => ⟨fun _ _ _ _ r h => by simp [depotref05_Match.l0] at h, fun _ _ _ _ _ _ _ r h => by simp [depotref05_Match.l1] at h⟩
  | k + 1 => by
    obtain ⟨ih0, ih1⟩ := depotref05_Match.mono_l k
    refine ⟨?_, ?_⟩
    · intro y0 y1 y2 y3
      unfold depotref05_Match.l0
      repeat' first
      | (with_reducible exact ih0 _ _ _ _)
      | (with_reducible exact ih1 _ _ _ _ _ _ _)
      | (with_reducible exact LeO.refl _)
      | (with_reducible exact LeO.none _)
      | (with_reducible refine LeO.ite ?_ ?_)
      | (with_reducible refine LeO.bind ?_ (fun _ => ?_))
      | exact ih0 _ _ _ _
      | exact ih1 _ _ _ _ _ _ _
      | exact LeO.none _
      | refine LeO.ite ?_ ?_
      | refine LeO.bind ?_ (fun _ => ?_)
    · intro y0 y1 y2 y3 y4 y5 y6
      unfold depotref05_Match.l1
      repeat' first
      | (with_reducible exact ih0 _ _ _ _)
      | (with_reducible exact ih1 _ _ _ _ _ _ _)
      | (with_reducible exact LeO.refl _)
      | (with_reducible exact LeO.none _)
      | (with_reducible refine LeO.ite ?_ ?_)
      | (with_reducible refine LeO.bind ?_ (fun _ => ?_))
      | exact ih0 _ _ _ _
      | exact ih1 _ _ _ _ _ _ _
      | exact LeO.none _
      | refine LeO.ite ?_ ?_
      | refine LeO.bind ?_ (fun _ => ?_)
theorem depotref05_Match.mono : ∀ a0 a1 k, LeO (depotref05_Match.f k a0 a1) (depotref05_Match.f (k + 1) a0 a1) := by
  intro a0 a1 k
  obtain ⟨ih0, ih1⟩ := depotref05_Match.mono_l k
  unfold depotref05_Match.f
  repeat' first
      | (with_reducible exact ih0 _ _ _ _)
      | (with_reducible exact ih1 _ _ _ _ _ _ _)
      | (with_reducible exact LeO.refl _)
      | (with_reducible exact LeO.none _)
      | (with_reducible refine LeO.ite ?_ ?_)
      | (with_reducible refine LeO.bind ?_ (fun _ => ?_))
      | exact ih0 _ _ _ _
      | exact ih1 _ _ _ _ _ _ _
      | exact LeO.none _
      | refine LeO.ite ?_ ?_
      | refine LeO.bind ?_ (fun _ => ?_)
set_option maxHeartbeats 8000000 in
set_option maxRecDepth 100000 in
theorem depotref05_Match.calls (k : Nat) (a0 : ByteArray) (a1 : ByteArray) (r : Bool) (w : World) (h : depotref05_Match.f k a0 a1 = some r) :
    Calls Try.prog 13 #[.string a0, .string a1] w fun e w' => e = .returned (.bool r) ∧ Below w.heap.size w w' := by
  have HB := Aside0.mk (Below.refl w.heap.size w)
  have H : (if 0 ≤ (wrap64 ((a1.size : Int) + 1)) then (if (wrap64 ((a1.size : Int) + 1) : Int).toNat ≤ 281474976710656 then ((some (List.replicate (wrap64 ((a1.size : Int) + 1) : Int).toNat false : List Bool)).bind fun y123 => (if 0 < (y123.length : Int) then (depotref05_Match.l0 k a0 a1 (y123.set (0 : Int).toNat true) 0) else (none))) else (none)) else (none)) = some r := h
  clear h
  obtain ⟨ji3, hji3⟩ : ∃ j_ : Int, (wrap64 ((a1.size : Int) + 1)) = j_ := ⟨_, rfl⟩
  replace H : (if 0 ≤ (ji3) then (if (ji3 : Int).toNat ≤ 281474976710656 then ((some (List.replicate (ji3 : Int).toNat false : List Bool)).bind fun y123 => (if 0 < (y123.length : Int) then (depotref05_Match.l0 k a0 a1 (y123.set (0 : Int).toNat true) 0) else (none))) else (none)) else (none)) = some r := by first | (rw [hji3] at H; exact H) | (simp only [hji3] at H ⊢; exact H)
  have hji3w : (IntKind.i64.wrap ((a1.size : Int) + 1)) = ji3 := (i64_w _).trans hji3
  by_cases c4 : 0 ≤ (ji3)
  · rw [if_pos c4] at H
    have c4b0 := eq_true c4
    have c4b1 : decide (0 ≤ (ji3)) = true := decide_eq_true c4
    clear c4
    by_cases c5 : (ji3 : Int).toNat ≤ 281474976710656
    · rw [if_pos c5] at H
      have c5b0 := eq_true c5
      have c5b1 : decide ((ji3 : Int).toNat ≤ 281474976710656) = true := decide_eq_true c5
      clear c5
      obtain ⟨y123, hy123⟩ : ∃ y_ : List Bool, y_ = (List.replicate (ji3 : Int).toNat false) := ⟨_, rfl⟩
      replace H : (if 0 < (y123.length : Int) then (depotref05_Match.l0 k a0 a1 (y123.set (0 : Int).toNat true) 0) else (none)) = some r := by first | (rw [hy123]; with_reducible exact H) | (have H2_ := (Option.bind_some _ _).symm.trans H; rw [hy123]; with_reducible exact H2_) | (have H2_ := (Option.bind_some _ _).symm.trans H; with_reducible exact H2_) | with_reducible exact H | (rw [hy123]; exact H) | exact H
      have Ny123 := Aside0.mk hy123
      clear hy123
      by_cases c6 : 0 < (y123.length : Int)
      · rw [if_pos c6] at H
        have c6b0 : decide (0 < (y123.length : Int)) = true := decide_eq_true c6
        have c6b1 : decide (0 < y123.length) = true := decide_eq_true (by omega)
        clear c6
        obtain ⟨y126, hy126⟩ : ∃ y_ : List Bool, y_ = (y123.set (0 : Int).toNat true) := ⟨_, rfl⟩
        replace H : (depotref05_Match.l0 k a0 a1 y126 0) = some r := by first | (rw [hy126]; with_reducible exact H) | (have H2_ := (Option.bind_some _ _).symm.trans H; rw [hy126]; with_reducible exact H2_) | (have H2_ := (Option.bind_some _ _).symm.trans H; with_reducible exact H2_) | with_reducible exact H | (rw [hy126]; exact H) | exact H
        have Ny126 := Aside0.mk hy126
        clear hy126
        have H' := Aside0.mk H
        clear H
        go_enter Try.func13, Try.ntmps13
        go_wp2_with (first | ((with_reducible refine gate_dst (N := 13) rfl ?_); refine Kd.R_make Kd.bool _ 4 rfl (N := 13) rfl 33 _ _ rfl ji3 rfl rfl Try.underlying33 (.bool false) 1 info4 rfl (by decide) (by omega) false (ok := fun _ => True) (okp := fun _ => True) rfl (fun _ hk => hk) trivial (of_decide_eq_true (by first | (with_reducible assumption) | assumption)) (Nat.le_trans (Nat.mul_le_mul_right _ (of_decide_eq_true (by first | (with_reducible assumption) | assumption) : ji3.toNat ≤ 281474976710656)) (by omega)) (Below.refl _ _) (Nat.le_refl _) ?_; intro v124 w8 ho9 hb hg_ hnew_; clear hg_ hnew_; (first | rw [← Ny123.out] at ho9 | (simp only [Int.reduceToNat] at ho9; rw [← Ny123.out] at ho9)); have n0_ := Aside0.mk (Kd.R_lower ho9 (below_size (by repeat (first | (with_reducible first | exact HB.out | apply below_alloc | apply pw_below_drewN | apply below_drew1) | exact HB.out)))); have n1_ := Aside0.mk (below_step (by repeat (first | (with_reducible first | exact HB.out | apply below_alloc | apply pw_below_drewN | apply below_drew1) | exact HB.out)) hb); clear HB; have HO125 := n0_; have HB := n1_; clear n0_ n1_; clear hb ho9; have p7 : 0 ≤ (0 : Int) := (by omega); have q7 : (0 : Int) < ((y123.length : Int) : Int) := of_decide_eq_true (by first | (with_reducible assumption) | assumption); have qi7 : (0 < y123.length) = True := eq_true (by omega); obtain ⟨go7, co7, eo7, gb7, gl7, cl7, HG7⟩ := Kd.R_form HO125.out (by omega); (first | cases eo7 | (injection eo7 with ea_ en_ ec_; (first | subst ea_ | (injection ea_ with ea_; subst ea_)); subst ec_; clear en_)); have GB7 := Aside0.mk gb7; have GG7 := Aside0.mk HG7; clear gb7 gl7 HG7; obtain ⟨hx7_0, hf7_0⟩ := Kd.R_celln false HO125.out (0 : Int) p7 q7; (try rw [show ((0 : Int)).toNat = 0 from rfl] at hx7_0); (try simp only [Nat.reduceMul, Nat.zero_mul, Nat.zero_add, Nat.reduceAdd] at hx7_0); (try rw [show ((0 : Int)).toNat = 0 from rfl] at hf7_0); (try simp only [Nat.reduceMul, Nat.zero_mul, Nat.zero_add, Nat.reduceAdd] at hf7_0); replace p7 := eq_true p7; replace q7 := eq_true q7; obtain ⟨hy10_, hz10_⟩ := Kd.R_celln false HO125.out (0 : Int) (by omega) (of_decide_eq_true (by first | (with_reducible assumption) | assumption)); (try simp only [Int.reduceToNat, Int.toNat_zero, Int.toNat_ofNat, Nat.reduceMul, Nat.zero_mul, Nat.zero_add] at hy10_ hz10_); (try rw [show ((0 : Int)).toNat = 0 from rfl] at hy10_); (try rw [show ((0 : Int)).toNat = 0 from rfl] at hz10_); have HP10 := Kd.R_putg HO125.out (0 : Int) true) | ((with_reducible refine gate_store (t := 4) (p := 15) rfl ?_); refine store_event (t := 4) (p := 15) (v := ?vo_w11) (w1 := (w8.setCell ⟨go7, (0 : Int).toNat, none⟩ (.bool true))) ?hg ?ho ?hn ?hr ?_; (case ho => rfl); (case hg => rfl); (case hn => rfl); (case hr => first | (go_simp; done) | (go_simp; rfl)); intro w11 hw; have hg : w8.grownBy w11 (some go7) := (by rw [hw]; exact HP10.2); have hp_ : Kd.R Kd.bool 4 w11 w.heap.size (fun _ => True) (.slice (some ⟨go7, 0, none⟩) y123.length co7) y126 := (by rw [hw, Ny126.out]; exact HP10.1); clear HP10; have n0_ := Aside0.mk (hp_); have n1_ := Aside0.mk ((by rw [hw]; exact below_set (HB.out) GB7.out : Below w.heap.size w w11)); clear HO125; clear HB; have HO125 := n0_; have HB := n1_; clear n0_ n1_; clear hg hw hp_))
        go_loopg [5, 6] k (fun kq v5 v6 w' => ∃ (x5_1 : List Bool) (x6_1 : Int), v6 = .int .i64 x6_1 ∧ Aside0 (depotref05_Match.l0 kq a0 a1 x5_1 x6_1 = some r) ∧ Aside0 (kq ≤ k) ∧ Aside0 (Kd.R Kd.bool 4 w' w.heap.size (fun _ => True) v5 x5_1) ∧ Aside0 (Below w.heap.size w w'))
        case atStart => exact ⟨(y126), (0), (by first | rfl | (simp; done) | (simp [*]; done)), H', ⟨Nat.le_refl _⟩, ⟨by (with_reducible repeat (first | apply Kd.R_alloc | apply Kd.R_drewN | apply Kd.R_drew)); exact HO125.out⟩, ⟨by repeat (first | (with_reducible first | exact HB.out | apply below_alloc | apply pw_below_drewN | apply below_drew1) | exact HB.out)⟩⟩
        case round =>
          clear H'
          try clear c1
          try clear p2
          try clear c4
          try clear c4b0
          try clear c4b1
          try clear c5
          try clear c5b0
          try clear c5b1
          try clear c6
          try clear c6b0
          try clear c6b1
          try clear p6
          try clear p7
          try clear q7
          try clear hx7
          try clear qi7
          try clear hf7
          try clear hx7_0
          try clear p7
          try clear q7
          obtain ⟨x5_1, x6_1, rfl, HA, HK1, HO_5, HB⟩ := hrel
          cases gk with
          | zero => exact absurd HA.out (by simp [depotref05_Match.l0])
          | succ k1 =>
            have H := HA.out
            clear HA
            simp only [depotref05_Match.l0] at H
            by_cases c12 : x6_1 < (a0.size : Int)
            · rw [if_pos c12] at H
              have c12b0 : decide (x6_1 < (a0.size : Int)) = true := decide_eq_true c12
              clear c12
              by_cases c13 : 0 ≤ x6_1
              · rw [if_pos c13] at H
                have c13b0 : decide (0 ≤ x6_1) = true := decide_eq_true c13
                clear c13
                replace H : (if 0 ≤ (ji3) then (if (ji3 : Int).toNat ≤ 281474976710656 then (depotref05_Match.l1 k1 a0 a1 x5_1 x6_1 (bt a0 x6_1) (List.replicate (ji3 : Int).toNat false) 0) else (none)) else (none)) = some r := by first | (rw [hji3] at H; exact H) | (simp only [hji3] at H ⊢; exact H)
                have hji3w : (IntKind.i64.wrap ((a1.size : Int) + 1)) = ji3 := (i64_w _).trans hji3
                by_cases c16 : 0 ≤ (ji3)
                · rw [if_pos c16] at H
                  have c16b0 := eq_true c16
                  have c16b1 : decide (0 ≤ (ji3)) = true := decide_eq_true c16
                  clear c16
                  by_cases c17 : (ji3 : Int).toNat ≤ 281474976710656
                  · rw [if_pos c17] at H
                    have c17b0 := eq_true c17
                    have c17b1 : decide ((ji3 : Int).toNat ≤ 281474976710656) = true := decide_eq_true c17
                    clear c17
                    obtain ⟨y128, hy128⟩ : ∃ y_ : List Bool, y_ = (List.replicate (ji3 : Int).toNat false) := ⟨_, rfl⟩
                    replace H : (depotref05_Match.l1 k1 a0 a1 x5_1 x6_1 (bt a0 x6_1) y128 0) = some r := by first | (rw [hy128]; with_reducible exact H) | (have H2_ := (Option.bind_some _ _).symm.trans H; rw [hy128]; with_reducible exact H2_) | (have H2_ := (Option.bind_some _ _).symm.trans H; with_reducible exact H2_) | with_reducible exact H | (rw [hy128]; exact H) | exact H
                    have Ny128 := Aside0.mk hy128
                    clear hy128
                    have H' := Aside0.mk H
                    clear H
                    have p14 : 0 ≤ (x6_1 : Int) := of_decide_eq_true (by first | (with_reducible assumption) | assumption)
                    have q14 : x6_1 < (a0.size : Int) := of_decide_eq_true (by first | (with_reducible assumption) | assumption)
                    have hx14 := bt_at a0 x6_1
                    replace p14 := eq_true p14
                    replace q14 := eq_true q14
                    go_wp2_with (first | ((with_reducible refine gate_dst (N := 28) rfl ?_); refine Kd.R_make Kd.bool _ 4 rfl (N := 28) rfl 33 _ _ rfl ji3 rfl rfl Try.underlying33 (.bool false) 1 info4 rfl (by decide) (by omega) false (ok := fun _ => True) (okp := fun _ => True) rfl (fun _ hk => hk) trivial (of_decide_eq_true (by first | (with_reducible assumption) | assumption)) (Nat.le_trans (Nat.mul_le_mul_right _ (of_decide_eq_true (by first | (with_reducible assumption) | assumption) : ji3.toNat ≤ 281474976710656)) (by omega)) (Below.refl _ _) (Nat.le_refl _) ?_; intro v129 w18 ho19 hb hg_ hnew_; clear hg_ hnew_; (first | rw [← Ny128.out] at ho19 | (simp only [Int.reduceToNat] at ho19; rw [← Ny128.out] at ho19)); have n0_ := Aside0.mk (Kd.R_elder' (by (with_reducible repeat (first | apply Kd.R_alloc | apply Kd.R_drewN | apply Kd.R_drew)); exact HO_5.out) (Kd.R_base ho19) hb); have n1_ := Aside0.mk (Kd.R_lower (Kd.R_new' ho19 (Kd.R_lt (by (with_reducible repeat (first | apply Kd.R_alloc | apply Kd.R_drewN | apply Kd.R_drew)); exact HO_5.out))) (below_size (by repeat (first | (with_reducible first | exact HB.out | apply below_alloc | apply pw_below_drewN | apply below_drew1) | exact HB.out)))); have n2_ := Aside0.mk (below_step (by repeat (first | (with_reducible first | exact HB.out | apply below_alloc | apply pw_below_drewN | apply below_drew1) | exact HB.out)) hb); clear HO_5; clear HB; have HO_5 := n0_; have HO130 := n1_; have HB := n2_; clear n0_ n1_ n2_; clear hb ho19))
                    go_loopg [9] k1 (fun kq v9 w' => ∃ (x8_2 : List Bool) (x9_2 : Int), v9 = .int .i64 x9_2 ∧ Aside0 (depotref05_Match.l1 kq a0 a1 x5_1 x6_1 (bt a0 x6_1) x8_2 x9_2 = some r) ∧ Aside0 (kq ≤ k1) ∧ Aside0 (Kd.R Kd.bool 4 w' w.heap.size (fun k_ => some k_ ≠ (v129 : Value).ownBlock) u5 x5_1) ∧ Aside0 (Kd.R Kd.bool 4 w' w.heap.size (fun k_ => some k_ ≠ (u5 : Value).ownBlock) v129 x8_2) ∧ Aside0 (Below w.heap.size w w'))
                    case atStart => exact ⟨(y128), (0), (by first | rfl | (simp; done) | (simp [*]; done)), H', ⟨Nat.le_refl _⟩, ⟨by (with_reducible repeat (first | apply Kd.R_alloc | apply Kd.R_drewN | apply Kd.R_drew)); exact Kd.R_mono HO_5.out (fun _ hk => hk.2)⟩, ⟨by (with_reducible repeat (first | apply Kd.R_alloc | apply Kd.R_drewN | apply Kd.R_drew)); exact Kd.R_mono HO130.out (fun _ hk => hk.2)⟩, ⟨by repeat (first | (with_reducible first | exact HB.out | apply below_alloc | apply pw_below_drewN | apply below_drew1) | exact HB.out)⟩⟩
                    case round =>
                      clear H'
                      try clear c1
                      try clear p1
                      try clear q1
                      try clear hx1
                      try clear p2
                      try clear c4
                      try clear c4b0
                      try clear c4b1
                      try clear c5
                      try clear c5b0
                      try clear c5b1
                      try clear c6
                      try clear c6b0
                      try clear c6b1
                      try clear p6
                      try clear p7
                      try clear q7
                      try clear hx7
                      try clear qi7
                      try clear hf7
                      try clear c12
                      try clear c12b0
                      try clear c13
                      try clear c13b0
                      try clear p14
                      try clear q14
                      try clear hx14
                      try clear c16
                      try clear c16b0
                      try clear c16b1
                      try clear c17
                      try clear c17b0
                      try clear c17b1
                      try clear hx7_0
                      try clear p14
                      try clear p2
                      try clear p6
                      try clear p7
                      try clear q14
                      try clear q7
                      obtain ⟨x8_2, x9_2, rfl, HA, HK2, HO_5, HO_8, HB⟩ := hrel
                      cases gk with
                      | zero => exact absurd HA.out (by simp [depotref05_Match.l1])
                      | succ k2 =>
                        have H := HA.out
                        clear HA
                        simp only [depotref05_Match.l1] at H
                        by_cases c20 : x9_2 ≤ (a1.size : Int)
                        · rw [if_pos c20] at H
                          have c20b0 : decide (x9_2 ≤ (a1.size : Int)) = true := decide_eq_true c20
                          clear c20
                          by_cases c21 : (bt a0 x6_1) = 42
                          · rw [if_pos c21] at H
                            have c21b0 : ((bt a0 x6_1) == 42) = true := beq_iff_eq.mpr c21
                            have c21b1 : ((bt a0 x6_1) != 42) = false := bne_eq_false_iff_eq.mpr c21
                            clear c21
                            by_cases c22 : 0 ≤ x9_2
                            · rw [if_pos c22] at H
                              have c22b0 : decide (0 ≤ x9_2) = true := decide_eq_true c22
                              clear c22
                              by_cases c23 : x9_2 < (x5_1.length : Int)
                              · rw [if_pos c23] at H
                                have c23b0 : decide (x9_2 < (x5_1.length : Int)) = true := decide_eq_true c23
                                clear c23
                                obtain ⟨bq24, hbq24⟩ : ∃ b_ : Bool, b_ = (rdOf false x5_1 x9_2) := ⟨_, rfl⟩
                                replace H : (if bq24 = true then (if x9_2 < (x8_2.length : Int) then (depotref05_Match.l1 k2 a0 a1 x5_1 x6_1 (bt a0 x6_1) (x8_2.set (x9_2 : Int).toNat true) (wrap64 (x9_2 + 1))) else (none)) else (if x9_2 > 0 then (if 0 ≤ (wrap64 (x9_2 - 1)) then (if (wrap64 (x9_2 - 1)) < (x8_2.length : Int) then (if x9_2 < (x8_2.length : Int) then (depotref05_Match.l1 k2 a0 a1 x5_1 x6_1 (bt a0 x6_1) (x8_2.set (x9_2 : Int).toNat (rdOf false x8_2 (wrap64 (x9_2 - 1)))) (wrap64 (x9_2 + 1))) else (none)) else (none)) else (none)) else (if x9_2 < (x8_2.length : Int) then (depotref05_Match.l1 k2 a0 a1 x5_1 x6_1 (bt a0 x6_1) (x8_2.set (x9_2 : Int).toNat false) (wrap64 (x9_2 + 1))) else (none)))) = some r := by rw [← hbq24] at H; exact H
                                have Nbq24 := Aside0.mk hbq24
                                clear hbq24
                                by_cases c25 : bq24 = true
                                · subst c25
                                  have H1 : (if x9_2 < (x8_2.length : Int) then (depotref05_Match.l1 k2 a0 a1 x5_1 x6_1 (bt a0 x6_1) (x8_2.set (x9_2 : Int).toNat true) (wrap64 (x9_2 + 1))) else (none)) = some r := by rw [if_pos rfl] at H; exact H
                                  clear H
                                  have H := H1
                                  clear H1
                                  by_cases c26 : x9_2 < (x8_2.length : Int)
                                  · rw [if_pos c26] at H
                                    have c26b0 : decide (x9_2 < (x8_2.length : Int)) = true := decide_eq_true c26
                                    clear c26
                                    obtain ⟨y132, hy132⟩ : ∃ y_ : List Bool, y_ = (x8_2.set (x9_2 : Int).toNat true) := ⟨_, rfl⟩
                                    replace H : (depotref05_Match.l1 k2 a0 a1 x5_1 x6_1 (bt a0 x6_1) y132 (wrap64 (x9_2 + 1))) = some r := by first | (rw [hy132]; with_reducible exact H) | (have H2_ := (Option.bind_some _ _).symm.trans H; rw [hy132]; with_reducible exact H2_) | (have H2_ := (Option.bind_some _ _).symm.trans H; with_reducible exact H2_) | with_reducible exact H | (rw [hy132]; exact H) | exact H
                                    have Ny132 := Aside0.mk hy132
                                    clear hy132
                                    have H' := Aside0.mk H
                                    clear H
                                    obtain ⟨Ao28, co28, eo28⟩ := Kd.R_slice HO_5.out
                                    subst eo28
                                    have p131 : 0 ≤ (x9_2 : Int) := of_decide_eq_true (by first | (with_reducible assumption) | assumption)
                                    have q131 : x9_2 < (x5_1.length : Int) := of_decide_eq_true (by first | (with_reducible assumption) | assumption)
                                    obtain ⟨ad131, e131, hx131_0⟩ := Kd.at_bool (Kd.R_reads' HO_5.out).2.2 x9_2 p131 q131
                                    (try rw [← Nbq24.out] at hx131_0)
                                    cases e131
                                    replace p131 := eq_true p131
                                    replace q131 := eq_true q131
                                    have p27 : 0 ≤ (x9_2 : Int) := of_decide_eq_true (by first | (with_reducible assumption) | assumption)
                                    have q27 : (x9_2 : Int) < ((x8_2.length : Int) : Int) := of_decide_eq_true (by first | (with_reducible assumption) | assumption)
                                    obtain ⟨go27, co27, eo27, gb27, gl27, cl27, HG27⟩ := Kd.R_form HO_8.out (by omega)
                                    (first | cases eo27 | (injection eo27 with ea_ en_ ec_; (first | subst ea_ | (injection ea_ with ea_; subst ea_)); subst ec_; clear en_))
                                    have GB27 := Aside0.mk gb27
                                    have GG27 := Aside0.mk HG27
                                    clear gb27 gl27 HG27
                                    obtain ⟨hx27_0, hf27_0⟩ := Kd.R_celln false HO_8.out (x9_2 : Int) p27 q27
                                    replace p27 := eq_true p27
                                    replace q27 := eq_true q27
                                    have HP29 := Kd.R_putg HO_8.out (x9_2 : Int) true
                                    go_wp2_with (first | ((with_reducible refine gate_store (t := 4) (p := 54) rfl ?_); refine store_event (t := 4) (p := 54) (v := ?vo_w30) (w1 := (wr.setCell ⟨go27, (x9_2 : Int).toNat, none⟩ (.bool true))) ?hg ?ho ?hn ?hr ?_; (case ho => rfl); (case hg => rfl); (case hn => rfl); (case hr => first | (go_simp; done) | (go_simp; rfl)); intro w30 hw; have hg : wr.grownBy w30 (some go27) := (by rw [hw]; exact HP29.2); have hp_ : Kd.R Kd.bool 4 w30 w.heap.size (fun k_ => some k_ ≠ (.slice (some ad131) x5_1.length co28 : Value).ownBlock) (.slice (some ⟨go27, 0, none⟩) x8_2.length co27) y132 := (by rw [hw, Ny132.out]; exact HP29.1); clear HP29; have n0_ := Aside0.mk (Kd.R_after (v := (.slice (some ⟨go27, 0, none⟩) x8_2.length co27)) (v1 := (.slice (some ⟨go27, 0, none⟩) x8_2.length co27)) (ok := (fun _ => True)) (by (with_reducible repeat (first | apply Kd.R_alloc | apply Kd.R_drewN | apply Kd.R_drew)); exact Kd.R_mono HO_5.out (fun _ hk => ⟨trivial, hk⟩)) hg (.inl rfl)); have n1_ := Aside0.mk (hp_); have n2_ := Aside0.mk ((by rw [hw]; exact below_set (HB.out) GB27.out : Below w.heap.size w w30)); clear HO_5; clear HO_8; clear HB; have HO_5 := n0_; have HO_8 := n1_; have HB := n2_; clear n0_ n1_ n2_; clear hg hw hp_))
                                    go_roundg k2
                                    case measure => have := HK1.out; have := HK2.out; omega
                                    case rel => exact ⟨(y132), (wrap64 (x9_2 + 1)), (by first | rfl | (simp; done) | (simp [*]; done)), H', ⟨by have := HK1.out; have := HK2.out; omega⟩, ⟨by (with_reducible repeat (first | apply Kd.R_alloc | apply Kd.R_drewN | apply Kd.R_drew)); exact Kd.R_mono HO_5.out (fun _ hk => hk.2)⟩, ⟨by (with_reducible repeat (first | apply Kd.R_alloc | apply Kd.R_drewN | apply Kd.R_drew)); exact HO_8.out⟩, ⟨by repeat (first | (with_reducible first | exact HB.out | apply below_alloc | apply pw_below_drewN | apply below_drew1) | exact HB.out)⟩⟩
                                  · rw [if_neg c26] at H
                                    exact absurd H (by simp)
                                · replace c25 := Bool.eq_false_iff.mpr c25
                                  subst c25
                                  have H1 : (if x9_2 > 0 then (if 0 ≤ (wrap64 (x9_2 - 1)) then (if (wrap64 (x9_2 - 1)) < (x8_2.length : Int) then (if x9_2 < (x8_2.length : Int) then (depotref05_Match.l1 k2 a0 a1 x5_1 x6_1 (bt a0 x6_1) (x8_2.set (x9_2 : Int).toNat (rdOf false x8_2 (wrap64 (x9_2 - 1)))) (wrap64 (x9_2 + 1))) else (none)) else (none)) else (none)) else (if x9_2 < (x8_2.length : Int) then (depotref05_Match.l1 k2 a0 a1 x5_1 x6_1 (bt a0 x6_1) (x8_2.set (x9_2 : Int).toNat false) (wrap64 (x9_2 + 1))) else (none))) = some r := by rw [if_neg (show ¬ (false = true) by decide)] at H; exact H
                                  clear H
                                  have H := H1
                                  clear H1
                                  by_cases c31 : x9_2 > 0
                                  · rw [if_pos c31] at H
                                    have c31b0 : decide (0 < x9_2) = true := decide_eq_true c31
                                    clear c31
                                    obtain ⟨ji32, hji32⟩ : ∃ j_ : Int, (wrap64 (x9_2 - 1)) = j_ := ⟨_, rfl⟩
                                    replace H : (if 0 ≤ (ji32) then (if (ji32) < (x8_2.length : Int) then (if x9_2 < (x8_2.length : Int) then (depotref05_Match.l1 k2 a0 a1 x5_1 x6_1 (bt a0 x6_1) (x8_2.set (x9_2 : Int).toNat (rdOf false x8_2 (ji32))) (wrap64 (x9_2 + 1))) else (none)) else (none)) else (none)) = some r := by first | (rw [hji32] at H; exact H) | (simp only [hji32] at H ⊢; exact H)
                                    have hji32w : (IntKind.i64.wrap (x9_2 - 1)) = ji32 := (i64_w _).trans hji32
                                    by_cases c33 : 0 ≤ (ji32)
                                    · rw [if_pos c33] at H
                                      have c33b0 : decide (0 ≤ (ji32)) = true := decide_eq_true c33
                                      clear c33
                                      by_cases c34 : (ji32) < (x8_2.length : Int)
                                      · rw [if_pos c34] at H
                                        have c34b0 : decide ((ji32) < (x8_2.length : Int)) = true := decide_eq_true c34
                                        clear c34
                                        by_cases c35 : x9_2 < (x8_2.length : Int)
                                        · rw [if_pos c35] at H
                                          have c35b0 : decide (x9_2 < (x8_2.length : Int)) = true := decide_eq_true c35
                                          clear c35
                                          obtain ⟨y134, hy134⟩ : ∃ y_ : List Bool, y_ = (x8_2.set (x9_2 : Int).toNat (rdOf false x8_2 (ji32))) := ⟨_, rfl⟩
                                          replace H : (depotref05_Match.l1 k2 a0 a1 x5_1 x6_1 (bt a0 x6_1) y134 (wrap64 (x9_2 + 1))) = some r := by first | (rw [hy134]; with_reducible exact H) | (have H2_ := (Option.bind_some _ _).symm.trans H; rw [hy134]; with_reducible exact H2_) | (have H2_ := (Option.bind_some _ _).symm.trans H; with_reducible exact H2_) | with_reducible exact H | (rw [hy134]; exact H) | exact H
                                          have Ny134 := Aside0.mk hy134
                                          clear hy134
                                          have H' := Aside0.mk H
                                          clear H
                                          obtain ⟨Ao37, co37, eo37⟩ := Kd.R_slice HO_5.out
                                          subst eo37
                                          have p131 : 0 ≤ (x9_2 : Int) := of_decide_eq_true (by first | (with_reducible assumption) | assumption)
                                          have q131 : x9_2 < (x5_1.length : Int) := of_decide_eq_true (by first | (with_reducible assumption) | assumption)
                                          obtain ⟨ad131, e131, hx131_0⟩ := Kd.at_bool (Kd.R_reads' HO_5.out).2.2 x9_2 p131 q131
                                          (try rw [← Nbq24.out] at hx131_0)
                                          cases e131
                                          replace p131 := eq_true p131
                                          replace q131 := eq_true q131
                                          obtain ⟨Ao38, co38, eo38⟩ := Kd.R_slice HO_8.out
                                          subst eo38
                                          have p133 : 0 ≤ ((ji32) : Int) := of_decide_eq_true (by first | (with_reducible assumption) | assumption)
                                          have q133 : (ji32) < (x8_2.length : Int) := of_decide_eq_true (by first | (with_reducible assumption) | assumption)
                                          obtain ⟨ad133, e133, hx133_0⟩ := Kd.at_bool (Kd.R_reads' HO_8.out).2.2 (ji32) p133 q133
                                          (try rw [← Nbq24.out] at hx133_0)
                                          cases e133
                                          replace p133 := eq_true p133
                                          replace q133 := eq_true q133
                                          have p36 : 0 ≤ (x9_2 : Int) := of_decide_eq_true (by first | (with_reducible assumption) | assumption)
                                          have q36 : (x9_2 : Int) < ((x8_2.length : Int) : Int) := of_decide_eq_true (by first | (with_reducible assumption) | assumption)
                                          obtain ⟨go36, co36, eo36, gb36, gl36, cl36, HG36⟩ := Kd.R_form HO_8.out (by omega)
                                          (first | cases eo36 | (injection eo36 with ea_ en_ ec_; (first | subst ea_ | (injection ea_ with ea_; subst ea_)); subst ec_; clear en_))
                                          have GB36 := Aside0.mk gb36
                                          have GG36 := Aside0.mk HG36
                                          clear gb36 gl36 HG36
                                          (first | simp only [add_plain] at hx133_0 | skip)
                                          obtain ⟨hx36_0, hf36_0⟩ := Kd.R_celln false HO_8.out (x9_2 : Int) p36 q36
                                          replace p36 := eq_true p36
                                          replace q36 := eq_true q36
                                          have HP39 := Kd.R_putg HO_8.out (x9_2 : Int) (rdOf false x8_2 (ji32))
                                          go_wp2_with (first | ((with_reducible refine gate_store (t := 4) (p := 54) rfl ?_); refine store_event (t := 4) (p := 54) (v := ?vo_w40) (w1 := (wr.setCell ⟨go36, (x9_2 : Int).toNat, none⟩ (.bool (rdOf false x8_2 (ji32))))) ?hg ?ho ?hn ?hr ?_; (case ho => rfl); (case hg => rfl); (case hn => rfl); (case hr => first | (go_simp; done) | (go_simp; rfl)); intro w40 hw; have hg : wr.grownBy w40 (some go36) := (by rw [hw]; exact HP39.2); have hp_ : Kd.R Kd.bool 4 w40 w.heap.size (fun k_ => some k_ ≠ (.slice (some ad131) x5_1.length co37 : Value).ownBlock) (.slice (some ⟨go36, 0, none⟩) x8_2.length co38) y134 := (by rw [hw, Ny134.out]; exact HP39.1); clear HP39; have n0_ := Aside0.mk (Kd.R_after (v := (.slice (some ⟨go36, 0, none⟩) x8_2.length co38)) (v1 := (.slice (some ⟨go36, 0, none⟩) x8_2.length co38)) (ok := (fun _ => True)) (by (with_reducible repeat (first | apply Kd.R_alloc | apply Kd.R_drewN | apply Kd.R_drew)); exact Kd.R_mono HO_5.out (fun _ hk => ⟨trivial, hk⟩)) hg (.inl rfl)); have n1_ := Aside0.mk (hp_); have n2_ := Aside0.mk ((by rw [hw]; exact below_set (HB.out) GB36.out : Below w.heap.size w w40)); clear HO_5; clear HO_8; clear HB; have HO_5 := n0_; have HO_8 := n1_; have HB := n2_; clear n0_ n1_ n2_; clear hg hw hp_))
                                          go_roundg k2
                                          case measure => have := HK1.out; have := HK2.out; omega
                                          case rel => exact ⟨(y134), (wrap64 (x9_2 + 1)), (by first | rfl | (simp; done) | (simp [*]; done)), H', ⟨by have := HK1.out; have := HK2.out; omega⟩, ⟨by (with_reducible repeat (first | apply Kd.R_alloc | apply Kd.R_drewN | apply Kd.R_drew)); exact Kd.R_mono HO_5.out (fun _ hk => hk.2)⟩, ⟨by (with_reducible repeat (first | apply Kd.R_alloc | apply Kd.R_drewN | apply Kd.R_drew)); exact HO_8.out⟩, ⟨by repeat (first | (with_reducible first | exact HB.out | apply below_alloc | apply pw_below_drewN | apply below_drew1) | exact HB.out)⟩⟩
                                        · rw [if_neg c35] at H
                                          exact absurd H (by simp)
                                      · rw [if_neg c34] at H
                                        exact absurd H (by simp)
                                    · rw [if_neg c33] at H
                                      exact absurd H (by simp)
                                  · rw [if_neg c31] at H
                                    have c31b0 : decide (0 < x9_2) = false := decide_eq_false c31
                                    clear c31
                                    by_cases c41 : x9_2 < (x8_2.length : Int)
                                    · rw [if_pos c41] at H
                                      have c41b0 : decide (x9_2 < (x8_2.length : Int)) = true := decide_eq_true c41
                                      clear c41
                                      obtain ⟨y135, hy135⟩ : ∃ y_ : List Bool, y_ = (x8_2.set (x9_2 : Int).toNat false) := ⟨_, rfl⟩
                                      replace H : (depotref05_Match.l1 k2 a0 a1 x5_1 x6_1 (bt a0 x6_1) y135 (wrap64 (x9_2 + 1))) = some r := by first | (rw [hy135]; with_reducible exact H) | (have H2_ := (Option.bind_some _ _).symm.trans H; rw [hy135]; with_reducible exact H2_) | (have H2_ := (Option.bind_some _ _).symm.trans H; with_reducible exact H2_) | with_reducible exact H | (rw [hy135]; exact H) | exact H
                                      have Ny135 := Aside0.mk hy135
                                      clear hy135
                                      have H' := Aside0.mk H
                                      clear H
                                      obtain ⟨Ao43, co43, eo43⟩ := Kd.R_slice HO_5.out
                                      subst eo43
                                      have p131 : 0 ≤ (x9_2 : Int) := of_decide_eq_true (by first | (with_reducible assumption) | assumption)
                                      have q131 : x9_2 < (x5_1.length : Int) := of_decide_eq_true (by first | (with_reducible assumption) | assumption)
                                      obtain ⟨ad131, e131, hx131_0⟩ := Kd.at_bool (Kd.R_reads' HO_5.out).2.2 x9_2 p131 q131
                                      (try rw [← Nbq24.out] at hx131_0)
                                      cases e131
                                      replace p131 := eq_true p131
                                      replace q131 := eq_true q131
                                      have p42 : 0 ≤ (x9_2 : Int) := of_decide_eq_true (by first | (with_reducible assumption) | assumption)
                                      have q42 : (x9_2 : Int) < ((x8_2.length : Int) : Int) := of_decide_eq_true (by first | (with_reducible assumption) | assumption)
                                      obtain ⟨go42, co42, eo42, gb42, gl42, cl42, HG42⟩ := Kd.R_form HO_8.out (by omega)
                                      (first | cases eo42 | (injection eo42 with ea_ en_ ec_; (first | subst ea_ | (injection ea_ with ea_; subst ea_)); subst ec_; clear en_))
                                      have GB42 := Aside0.mk gb42
                                      have GG42 := Aside0.mk HG42
                                      clear gb42 gl42 HG42
                                      obtain ⟨hx42_0, hf42_0⟩ := Kd.R_celln false HO_8.out (x9_2 : Int) p42 q42
                                      replace p42 := eq_true p42
                                      replace q42 := eq_true q42
                                      have HP44 := Kd.R_putg HO_8.out (x9_2 : Int) false
                                      go_wp2_with (first | ((with_reducible refine gate_store (t := 4) (p := 54) rfl ?_); refine store_event (t := 4) (p := 54) (v := ?vo_w45) (w1 := (wr.setCell ⟨go42, (x9_2 : Int).toNat, none⟩ (.bool false))) ?hg ?ho ?hn ?hr ?_; (case ho => rfl); (case hg => rfl); (case hn => rfl); (case hr => first | (go_simp; done) | (go_simp; rfl)); intro w45 hw; have hg : wr.grownBy w45 (some go42) := (by rw [hw]; exact HP44.2); have hp_ : Kd.R Kd.bool 4 w45 w.heap.size (fun k_ => some k_ ≠ (.slice (some ad131) x5_1.length co43 : Value).ownBlock) (.slice (some ⟨go42, 0, none⟩) x8_2.length co42) y135 := (by rw [hw, Ny135.out]; exact HP44.1); clear HP44; have n0_ := Aside0.mk (Kd.R_after (v := (.slice (some ⟨go42, 0, none⟩) x8_2.length co42)) (v1 := (.slice (some ⟨go42, 0, none⟩) x8_2.length co42)) (ok := (fun _ => True)) (by (with_reducible repeat (first | apply Kd.R_alloc | apply Kd.R_drewN | apply Kd.R_drew)); exact Kd.R_mono HO_5.out (fun _ hk => ⟨trivial, hk⟩)) hg (.inl rfl)); have n1_ := Aside0.mk (hp_); have n2_ := Aside0.mk ((by rw [hw]; exact below_set (HB.out) GB42.out : Below w.heap.size w w45)); clear HO_5; clear HO_8; clear HB; have HO_5 := n0_; have HO_8 := n1_; have HB := n2_; clear n0_ n1_ n2_; clear hg hw hp_))
                                      go_roundg k2
                                      case measure => have := HK1.out; have := HK2.out; omega
                                      case rel => exact ⟨(y135), (wrap64 (x9_2 + 1)), (by first | rfl | (simp; done) | (simp [*]; done)), H', ⟨by have := HK1.out; have := HK2.out; omega⟩, ⟨by (with_reducible repeat (first | apply Kd.R_alloc | apply Kd.R_drewN | apply Kd.R_drew)); exact Kd.R_mono HO_5.out (fun _ hk => hk.2)⟩, ⟨by (with_reducible repeat (first | apply Kd.R_alloc | apply Kd.R_drewN | apply Kd.R_drew)); exact HO_8.out⟩, ⟨by repeat (first | (with_reducible first | exact HB.out | apply below_alloc | apply pw_below_drewN | apply below_drew1) | exact HB.out)⟩⟩
                                    · rw [if_neg c41] at H
                                      exact absurd H (by simp)
                              · rw [if_neg c23] at H
                                exact absurd H (by simp)
                            · rw [if_neg c22] at H
                              exact absurd H (by simp)
                          · rw [if_neg c21] at H
                            have c21b0 : ((bt a0 x6_1) == 42) = false := beq_eq_false_iff_ne.mpr c21
                            have c21b1 : ((bt a0 x6_1) != 42) = true := bne_iff_ne.mpr c21
                            by_cases c46 : x9_2 > 0
                            · rw [if_pos c46] at H
                              have c46b0 : decide (0 < x9_2) = true := decide_eq_true c46
                              clear c46
                              obtain ⟨ji47, hji47⟩ : ∃ j_ : Int, (wrap64 (x9_2 - 1)) = j_ := ⟨_, rfl⟩
                              replace H : (if 0 ≤ (ji47) then (if (ji47) < (x5_1.length : Int) then (if rdOf false x5_1 (ji47) = true then (if (bt a0 x6_1) = 63 then (if 0 ≤ x9_2 then (if x9_2 < (x8_2.length : Int) then (depotref05_Match.l1 k2 a0 a1 x5_1 x6_1 (bt a0 x6_1) (x8_2.set (x9_2 : Int).toNat true) (wrap64 (x9_2 + 1))) else (none)) else (none)) else (if (ji47) < (a1.size : Int) then (if 0 ≤ x9_2 then (if x9_2 < (x8_2.length : Int) then (depotref05_Match.l1 k2 a0 a1 x5_1 x6_1 (bt a0 x6_1) (x8_2.set (x9_2 : Int).toNat ((bt a0 x6_1) == (bt a1 (ji47)))) (wrap64 (x9_2 + 1))) else (none)) else (none)) else (none))) else (depotref05_Match.l1 k2 a0 a1 x5_1 x6_1 (bt a0 x6_1) x8_2 (wrap64 (x9_2 + 1)))) else (none)) else (none)) = some r := by first | (rw [hji47] at H; exact H) | (simp only [hji47] at H ⊢; exact H)
                              have hji47w : (IntKind.i64.wrap (x9_2 - 1)) = ji47 := (i64_w _).trans hji47
                              by_cases c48 : 0 ≤ (ji47)
                              · rw [if_pos c48] at H
                                have c48b0 : decide (0 ≤ (ji47)) = true := decide_eq_true c48
                                clear c48
                                by_cases c49 : (ji47) < (x5_1.length : Int)
                                · rw [if_pos c49] at H
                                  have c49b0 : decide ((ji47) < (x5_1.length : Int)) = true := decide_eq_true c49
                                  clear c49
                                  obtain ⟨bq50, hbq50⟩ : ∃ b_ : Bool, b_ = (rdOf false x5_1 (ji47)) := ⟨_, rfl⟩
                                  replace H : (if bq50 = true then (if (bt a0 x6_1) = 63 then (if 0 ≤ x9_2 then (if x9_2 < (x8_2.length : Int) then (depotref05_Match.l1 k2 a0 a1 x5_1 x6_1 (bt a0 x6_1) (x8_2.set (x9_2 : Int).toNat true) (wrap64 (x9_2 + 1))) else (none)) else (none)) else (if (ji47) < (a1.size : Int) then (if 0 ≤ x9_2 then (if x9_2 < (x8_2.length : Int) then (depotref05_Match.l1 k2 a0 a1 x5_1 x6_1 (bt a0 x6_1) (x8_2.set (x9_2 : Int).toNat ((bt a0 x6_1) == (bt a1 (ji47)))) (wrap64 (x9_2 + 1))) else (none)) else (none)) else (none))) else (depotref05_Match.l1 k2 a0 a1 x5_1 x6_1 (bt a0 x6_1) x8_2 (wrap64 (x9_2 + 1)))) = some r := by rw [← hbq50] at H; exact H
                                  have Nbq50 := Aside0.mk hbq50
                                  clear hbq50
                                  by_cases c51 : bq50 = true
                                  · subst c51
                                    have H1 : (if (bt a0 x6_1) = 63 then (if 0 ≤ x9_2 then (if x9_2 < (x8_2.length : Int) then (depotref05_Match.l1 k2 a0 a1 x5_1 x6_1 (bt a0 x6_1) (x8_2.set (x9_2 : Int).toNat true) (wrap64 (x9_2 + 1))) else (none)) else (none)) else (if (ji47) < (a1.size : Int) then (if 0 ≤ x9_2 then (if x9_2 < (x8_2.length : Int) then (depotref05_Match.l1 k2 a0 a1 x5_1 x6_1 (bt a0 x6_1) (x8_2.set (x9_2 : Int).toNat ((bt a0 x6_1) == (bt a1 (ji47)))) (wrap64 (x9_2 + 1))) else (none)) else (none)) else (none))) = some r := by rw [if_pos rfl] at H; exact H
                                    clear H
                                    have H := H1
                                    clear H1
                                    by_cases c52 : (bt a0 x6_1) = 63
                                    · rw [if_pos c52] at H
                                      have c52b0 : ((bt a0 x6_1) == 63) = true := beq_iff_eq.mpr c52
                                      have c52b1 : ((bt a0 x6_1) != 63) = false := bne_eq_false_iff_eq.mpr c52
                                      clear c52
                                      by_cases c53 : 0 ≤ x9_2
                                      · rw [if_pos c53] at H
                                        have c53b0 : decide (0 ≤ x9_2) = true := decide_eq_true c53
                                        clear c53
                                        by_cases c54 : x9_2 < (x8_2.length : Int)
                                        · rw [if_pos c54] at H
                                          have c54b0 : decide (x9_2 < (x8_2.length : Int)) = true := decide_eq_true c54
                                          clear c54
                                          obtain ⟨y137, hy137⟩ : ∃ y_ : List Bool, y_ = (x8_2.set (x9_2 : Int).toNat true) := ⟨_, rfl⟩
                                          replace H : (depotref05_Match.l1 k2 a0 a1 x5_1 x6_1 (bt a0 x6_1) y137 (wrap64 (x9_2 + 1))) = some r := by first | (rw [hy137]; with_reducible exact H) | (have H2_ := (Option.bind_some _ _).symm.trans H; rw [hy137]; with_reducible exact H2_) | (have H2_ := (Option.bind_some _ _).symm.trans H; with_reducible exact H2_) | with_reducible exact H | (rw [hy137]; exact H) | exact H
                                          have Ny137 := Aside0.mk hy137
                                          clear hy137
                                          have H' := Aside0.mk H
                                          clear H
                                          obtain ⟨Ao56, co56, eo56⟩ := Kd.R_slice HO_5.out
                                          subst eo56
                                          have p136 : 0 ≤ ((ji47) : Int) := of_decide_eq_true (by first | (with_reducible assumption) | assumption)
                                          have q136 : (ji47) < (x5_1.length : Int) := of_decide_eq_true (by first | (with_reducible assumption) | assumption)
                                          obtain ⟨ad136, e136, hx136_0⟩ := Kd.at_bool (Kd.R_reads' HO_5.out).2.2 (ji47) p136 q136
                                          (try rw [← Nbq50.out] at hx136_0)
                                          cases e136
                                          replace p136 := eq_true p136
                                          replace q136 := eq_true q136
                                          have p55 : 0 ≤ (x9_2 : Int) := of_decide_eq_true (by first | (with_reducible assumption) | assumption)
                                          have q55 : (x9_2 : Int) < ((x8_2.length : Int) : Int) := of_decide_eq_true (by first | (with_reducible assumption) | assumption)
                                          obtain ⟨go55, co55, eo55, gb55, gl55, cl55, HG55⟩ := Kd.R_form HO_8.out (by omega)
                                          (first | cases eo55 | (injection eo55 with ea_ en_ ec_; (first | subst ea_ | (injection ea_ with ea_; subst ea_)); subst ec_; clear en_))
                                          have GB55 := Aside0.mk gb55
                                          have GG55 := Aside0.mk HG55
                                          clear gb55 gl55 HG55
                                          obtain ⟨hx55_0, hf55_0⟩ := Kd.R_celln false HO_8.out (x9_2 : Int) p55 q55
                                          replace p55 := eq_true p55
                                          replace q55 := eq_true q55
                                          have HP57 := Kd.R_putg HO_8.out (x9_2 : Int) true
                                          go_wp2_with (first | ((with_reducible refine gate_store (t := 4) (p := 76) rfl ?_); refine store_event (t := 4) (p := 76) (v := ?vo_w58) (w1 := (wr.setCell ⟨go55, (x9_2 : Int).toNat, none⟩ (.bool true))) ?hg ?ho ?hn ?hr ?_; (case ho => rfl); (case hg => rfl); (case hn => rfl); (case hr => first | (go_simp; done) | (go_simp; rfl)); intro w58 hw; have hg : wr.grownBy w58 (some go55) := (by rw [hw]; exact HP57.2); have hp_ : Kd.R Kd.bool 4 w58 w.heap.size (fun k_ => some k_ ≠ (.slice (some ad136) x5_1.length co56 : Value).ownBlock) (.slice (some ⟨go55, 0, none⟩) x8_2.length co55) y137 := (by rw [hw, Ny137.out]; exact HP57.1); clear HP57; have n0_ := Aside0.mk (Kd.R_after (v := (.slice (some ⟨go55, 0, none⟩) x8_2.length co55)) (v1 := (.slice (some ⟨go55, 0, none⟩) x8_2.length co55)) (ok := (fun _ => True)) (by (with_reducible repeat (first | apply Kd.R_alloc | apply Kd.R_drewN | apply Kd.R_drew)); exact Kd.R_mono HO_5.out (fun _ hk => ⟨trivial, hk⟩)) hg (.inl rfl)); have n1_ := Aside0.mk (hp_); have n2_ := Aside0.mk ((by rw [hw]; exact below_set (HB.out) GB55.out : Below w.heap.size w w58)); clear HO_5; clear HO_8; clear HB; have HO_5 := n0_; have HO_8 := n1_; have HB := n2_; clear n0_ n1_ n2_; clear hg hw hp_))
                                          go_roundg k2
                                          case measure => have := HK1.out; have := HK2.out; omega
                                          case rel => exact ⟨(y137), (wrap64 (x9_2 + 1)), (by first | rfl | (simp; done) | (simp [*]; done)), H', ⟨by have := HK1.out; have := HK2.out; omega⟩, ⟨by (with_reducible repeat (first | apply Kd.R_alloc | apply Kd.R_drewN | apply Kd.R_drew)); exact Kd.R_mono HO_5.out (fun _ hk => hk.2)⟩, ⟨by (with_reducible repeat (first | apply Kd.R_alloc | apply Kd.R_drewN | apply Kd.R_drew)); exact HO_8.out⟩, ⟨by repeat (first | (with_reducible first | exact HB.out | apply below_alloc | apply pw_below_drewN | apply below_drew1) | exact HB.out)⟩⟩
                                        · rw [if_neg c54] at H
                                          exact absurd H (by simp)
                                      · rw [if_neg c53] at H
                                        exact absurd H (by simp)
                                    · rw [if_neg c52] at H
                                      have c52b0 : ((bt a0 x6_1) == 63) = false := beq_eq_false_iff_ne.mpr c52
                                      have c52b1 : ((bt a0 x6_1) != 63) = true := bne_iff_ne.mpr c52
                                      by_cases c59 : (ji47) < (a1.size : Int)
                                      · rw [if_pos c59] at H
                                        have c59b0 : decide ((ji47) < (a1.size : Int)) = true := decide_eq_true c59
                                        clear c59
                                        by_cases c61 : 0 ≤ x9_2
                                        · rw [if_pos c61] at H
                                          have c61b0 : decide (0 ≤ x9_2) = true := decide_eq_true c61
                                          clear c61
                                          by_cases c62 : x9_2 < (x8_2.length : Int)
                                          · rw [if_pos c62] at H
                                            have c62b0 : decide (x9_2 < (x8_2.length : Int)) = true := decide_eq_true c62
                                            clear c62
                                            obtain ⟨y138, hy138⟩ : ∃ y_ : List Bool, y_ = (x8_2.set (x9_2 : Int).toNat ((bt a0 x6_1) == (bt a1 (ji47)))) := ⟨_, rfl⟩
                                            replace H : (depotref05_Match.l1 k2 a0 a1 x5_1 x6_1 (bt a0 x6_1) y138 (wrap64 (x9_2 + 1))) = some r := by first | (rw [hy138]; with_reducible exact H) | (have H2_ := (Option.bind_some _ _).symm.trans H; rw [hy138]; with_reducible exact H2_) | (have H2_ := (Option.bind_some _ _).symm.trans H; with_reducible exact H2_) | with_reducible exact H | (rw [hy138]; exact H) | exact H
                                            have Ny138 := Aside0.mk hy138
                                            clear hy138
                                            have H' := Aside0.mk H
                                            clear H
                                            obtain ⟨Ao64, co64, eo64⟩ := Kd.R_slice HO_5.out
                                            subst eo64
                                            have p136 : 0 ≤ ((ji47) : Int) := of_decide_eq_true (by first | (with_reducible assumption) | assumption)
                                            have q136 : (ji47) < (x5_1.length : Int) := of_decide_eq_true (by first | (with_reducible assumption) | assumption)
                                            obtain ⟨ad136, e136, hx136_0⟩ := Kd.at_bool (Kd.R_reads' HO_5.out).2.2 (ji47) p136 q136
                                            (try rw [← Nbq50.out] at hx136_0)
                                            cases e136
                                            replace p136 := eq_true p136
                                            replace q136 := eq_true q136
                                            have p60 : 0 ≤ ((ji47) : Int) := of_decide_eq_true (by first | (with_reducible assumption) | assumption)
                                            have q60 : (ji47) < (a1.size : Int) := of_decide_eq_true (by first | (with_reducible assumption) | assumption)
                                            have hx60 := bt_at a1 (ji47)
                                            replace p60 := eq_true p60
                                            replace q60 := eq_true q60
                                            have p63 : 0 ≤ (x9_2 : Int) := of_decide_eq_true (by first | (with_reducible assumption) | assumption)
                                            have q63 : (x9_2 : Int) < ((x8_2.length : Int) : Int) := of_decide_eq_true (by first | (with_reducible assumption) | assumption)
                                            obtain ⟨go63, co63, eo63, gb63, gl63, cl63, HG63⟩ := Kd.R_form HO_8.out (by omega)
                                            (first | cases eo63 | (injection eo63 with ea_ en_ ec_; (first | subst ea_ | (injection ea_ with ea_; subst ea_)); subst ec_; clear en_))
                                            have GB63 := Aside0.mk gb63
                                            have GG63 := Aside0.mk HG63
                                            clear gb63 gl63 HG63
                                            obtain ⟨hx63_0, hf63_0⟩ := Kd.R_celln false HO_8.out (x9_2 : Int) p63 q63
                                            replace p63 := eq_true p63
                                            replace q63 := eq_true q63
                                            have HP65 := Kd.R_putg HO_8.out (x9_2 : Int) ((bt a0 x6_1) == (bt a1 (ji47)))
                                            go_wp2_with (first | ((with_reducible refine gate_store (t := 4) (p := 76) rfl ?_); refine store_event (t := 4) (p := 76) (v := ?vo_w66) (w1 := (wr.setCell ⟨go63, (x9_2 : Int).toNat, none⟩ (.bool ((bt a0 x6_1) == (bt a1 (ji47)))))) ?hg ?ho ?hn ?hr ?_; (case ho => rfl); (case hg => rfl); (case hn => rfl); (case hr => first | (go_simp; done) | (go_simp; rfl)); intro w66 hw; have hg : wr.grownBy w66 (some go63) := (by rw [hw]; exact HP65.2); have hp_ : Kd.R Kd.bool 4 w66 w.heap.size (fun k_ => some k_ ≠ (.slice (some ad136) x5_1.length co64 : Value).ownBlock) (.slice (some ⟨go63, 0, none⟩) x8_2.length co63) y138 := (by rw [hw, Ny138.out]; exact HP65.1); clear HP65; have n0_ := Aside0.mk (Kd.R_after (v := (.slice (some ⟨go63, 0, none⟩) x8_2.length co63)) (v1 := (.slice (some ⟨go63, 0, none⟩) x8_2.length co63)) (ok := (fun _ => True)) (by (with_reducible repeat (first | apply Kd.R_alloc | apply Kd.R_drewN | apply Kd.R_drew)); exact Kd.R_mono HO_5.out (fun _ hk => ⟨trivial, hk⟩)) hg (.inl rfl)); have n1_ := Aside0.mk (hp_); have n2_ := Aside0.mk ((by rw [hw]; exact below_set (HB.out) GB63.out : Below w.heap.size w w66)); clear HO_5; clear HO_8; clear HB; have HO_5 := n0_; have HO_8 := n1_; have HB := n2_; clear n0_ n1_ n2_; clear hg hw hp_))
                                            go_roundg k2
                                            case measure => have := HK1.out; have := HK2.out; omega
                                            case rel => exact ⟨(y138), (wrap64 (x9_2 + 1)), (by first | rfl | (simp; done) | (simp [*]; done)), H', ⟨by have := HK1.out; have := HK2.out; omega⟩, ⟨by (with_reducible repeat (first | apply Kd.R_alloc | apply Kd.R_drewN | apply Kd.R_drew)); exact Kd.R_mono HO_5.out (fun _ hk => hk.2)⟩, ⟨by (with_reducible repeat (first | apply Kd.R_alloc | apply Kd.R_drewN | apply Kd.R_drew)); exact HO_8.out⟩, ⟨by repeat (first | (with_reducible first | exact HB.out | apply below_alloc | apply pw_below_drewN | apply below_drew1) | exact HB.out)⟩⟩
                                          · rw [if_neg c62] at H
                                            exact absurd H (by simp)
                                        · rw [if_neg c61] at H
                                          exact absurd H (by simp)
                                      · rw [if_neg c59] at H
                                        exact absurd H (by simp)
                                  · replace c51 := Bool.eq_false_iff.mpr c51
                                    subst c51
                                    have H1 : (depotref05_Match.l1 k2 a0 a1 x5_1 x6_1 (bt a0 x6_1) x8_2 (wrap64 (x9_2 + 1))) = some r := by rw [if_neg (show ¬ (false = true) by decide)] at H; exact H
                                    clear H
                                    have H := H1
                                    clear H1
                                    have H' := Aside0.mk H
                                    clear H
                                    obtain ⟨Ao67, co67, eo67⟩ := Kd.R_slice HO_5.out
                                    subst eo67
                                    have p136 : 0 ≤ ((ji47) : Int) := of_decide_eq_true (by first | (with_reducible assumption) | assumption)
                                    have q136 : (ji47) < (x5_1.length : Int) := of_decide_eq_true (by first | (with_reducible assumption) | assumption)
                                    obtain ⟨ad136, e136, hx136_0⟩ := Kd.at_bool (Kd.R_reads' HO_5.out).2.2 (ji47) p136 q136
                                    (try rw [← Nbq50.out] at hx136_0)
                                    cases e136
                                    replace p136 := eq_true p136
                                    replace q136 := eq_true q136
                                    go_wp2
                                    go_roundg k2
                                    case measure => have := HK1.out; have := HK2.out; omega
                                    case rel => exact ⟨(x8_2), (wrap64 (x9_2 + 1)), (by first | rfl | (simp; done) | (simp [*]; done)), H', ⟨by have := HK1.out; have := HK2.out; omega⟩, ⟨by (with_reducible repeat (first | apply Kd.R_alloc | apply Kd.R_drewN | apply Kd.R_drew)); exact HO_5.out⟩, ⟨by (with_reducible repeat (first | apply Kd.R_alloc | apply Kd.R_drewN | apply Kd.R_drew)); exact HO_8.out⟩, ⟨by repeat (first | (with_reducible first | exact HB.out | apply below_alloc | apply pw_below_drewN | apply below_drew1) | exact HB.out)⟩⟩
                                · rw [if_neg c49] at H
                                  exact absurd H (by simp)
                              · rw [if_neg c48] at H
                                exact absurd H (by simp)
                            · rw [if_neg c46] at H
                              have c46b0 : decide (0 < x9_2) = false := decide_eq_false c46
                              clear c46
                              have H' := Aside0.mk H
                              clear H
                              go_wp2
                              go_roundg k2
                              case measure => have := HK1.out; have := HK2.out; omega
                              case rel => exact ⟨(x8_2), (wrap64 (x9_2 + 1)), (by first | rfl | (simp; done) | (simp [*]; done)), H', ⟨by have := HK1.out; have := HK2.out; omega⟩, ⟨by (with_reducible repeat (first | apply Kd.R_alloc | apply Kd.R_drewN | apply Kd.R_drew)); exact HO_5.out⟩, ⟨by (with_reducible repeat (first | apply Kd.R_alloc | apply Kd.R_drewN | apply Kd.R_drew)); exact HO_8.out⟩, ⟨by repeat (first | (with_reducible first | exact HB.out | apply below_alloc | apply pw_below_drewN | apply below_drew1) | exact HB.out)⟩⟩
                        · rw [if_neg c20] at H
                          have c20b0 : decide (x9_2 ≤ (a1.size : Int)) = false := decide_eq_false c20
                          clear c20
                          have H' := Aside0.mk H
                          clear H
                          go_wp2
                          go_roundg k2
                          case measure => have := HK1.out; have := HK2.out; omega
                          case rel => exact ⟨(x8_2), (wrap64 (x6_1 + 1)), (by first | rfl | (simp; done) | (simp [*]; done)), H', ⟨by have := HK1.out; have := HK2.out; omega⟩, ⟨by (with_reducible repeat (first | apply Kd.R_alloc | apply Kd.R_drewN | apply Kd.R_drew)); exact Kd.R_mono HO_8.out (fun _ hk => trivial)⟩, ⟨by repeat (first | (with_reducible first | exact HB.out | apply below_alloc | apply pw_below_drewN | apply below_drew1) | exact HB.out)⟩⟩
                  · rw [if_neg c17] at H
                    exact absurd H (by simp)
                · rw [if_neg c16] at H
                  exact absurd H (by simp)
              · rw [if_neg c13] at H
                exact absurd H (by simp)
            · rw [if_neg c12] at H
              have c12b0 : decide (x6_1 < (a0.size : Int)) = false := decide_eq_false c12
              clear c12
              by_cases c68 : 0 ≤ (a1.size : Int)
              · rw [if_pos c68] at H
                have c68b0 : decide (0 ≤ (a1.size : Int)) = true := decide_eq_true c68
                have c68b1 : decide (0 ≤ a1.size) = true := decide_eq_true (by omega)
                clear c68
                by_cases c69 : (a1.size : Int) < (x5_1.length : Int)
                · rw [if_pos c69] at H
                  have c69b0 : decide ((a1.size : Int) < (x5_1.length : Int)) = true := decide_eq_true c69
                  have c69b1 : decide (a1.size < x5_1.length) = true := decide_eq_true (Int.ofNat_lt.mp c69)
                  clear c69
                  obtain rfl := Option.some.inj H
                  obtain ⟨Ao70, co70, eo70⟩ := Kd.R_slice HO_5.out
                  subst eo70
                  have p127 : 0 ≤ ((a1.size : Int) : Int) := of_decide_eq_true (by first | (with_reducible assumption) | assumption)
                  have q127 : (a1.size : Int) < (x5_1.length : Int) := of_decide_eq_true (by first | (with_reducible assumption) | assumption)
                  obtain ⟨ad127, e127, hx127_0⟩ := Kd.at_bool (Kd.R_reads' HO_5.out).2.2 (a1.size : Int) p127 q127
                  (try simp only [Int.toNat_natCast] at hx127_0)
                  cases e127
                  replace p127 := eq_true p127
                  replace q127 := eq_true q127
                  go_wp2
                  go_ret
                  exact ⟨by first | rfl | (simp [errW_none, errW_some] <;> rfl) | (simp only [← hji3]; first | rfl | (simp [errW_none, errW_some] <;> rfl)) | (simp [*, errW_none, errW_some] <;> rfl), by repeat (first | (with_reducible first | exact HB.out | apply below_alloc | apply pw_below_drewN | apply below_drew1) | exact HB.out)⟩
                · rw [if_neg c69] at H
                  exact absurd H (by simp)
              · rw [if_neg c68] at H
                exact absurd H (by simp)
      · rw [if_neg c6] at H
        exact absurd H (by simp)
    · rw [if_neg c5] at H
      exact absurd H (by simp)
  · rw [if_neg c4] at H
    exact absurd H (by simp)

end Go.Proofs.Ytabgpdpdgkgmbaa.Q
