/- By a program of this session's: a plain Lean function for a Go function, and its contract. -/
import Derived.Test.YtbllmpfdhcbkpaaDoorQ0
import Derived.Test.YtbllmpfdhcbkpaaDoorQ3
namespace Go.Proofs.YtbllmpfdhcbkpaaDoor.Q
open Go.RowKit Go.Proofs.YtbllmpfdhcbkpaaDoorW.PrintWords Go.Proofs.YtbllmpfdhcbkpaaDoorW.PrintLast Go.Proofs.YtbllmpfdhcbkpaaDoorW.PrintMore
attribute [local go_sem] max2_int min2_int max_two min_two max_three min_three max_four min_four Go.Proofs.YtbllmpfdhcbkpaaDoor.Ord.str_leq Go.Proofs.YtbllmpfdhcbkpaaDoor.Ord.str_gtr Go.Proofs.YtbllmpfdhcbkpaaDoor.Ord.str_geq   -- for this text's walks alone
set_option linter.unusedVariables false
set_option linter.unusedSimpArgs false

/-! ### radix_FromBase32: function 45 -/
def radix_FromBase32.l0 : Nat → ByteArray → Int → List Int → Int → Int → Int → Option (ByteArray × Int)
  | 0, _, _, _, _, _, _ => none
  | k + 1, x0, x4, x5, x6, x7, x8 => if x8 ≥ 0 then (if 0 ≤ x8 then (if x8 < (x0.size : Int) then ((radix_Value.f (bt x0 x8)).bind fun t105 => (if t105 < 0 then (some ((⟨#[]⟩ : ByteArray), 20)) else (if 0 ≤ x7 then (if (IntKind.u64.wrap (x7 + 5)) ≥ 8 then (if (x5.length : Int) < x4 then (if x5.length < 140737488355328 then (radix_FromBase32.l0 k x0 x4 (x5 ++ [(Go.bits .or .u64 x6 (shl .u64 (IntKind.u64.wrap (t105)) x7)) % 256]) ((Go.bits .or .u64 x6 (shl .u64 (IntKind.u64.wrap (t105)) x7)) / 256) (IntKind.u64.wrap ((IntKind.u64.wrap (x7 + 5)) - 8)) (wrap64 (x8 - 1))) else (none)) else (radix_FromBase32.l0 k x0 x4 x5 (Go.bits .or .u64 x6 (shl .u64 (IntKind.u64.wrap (t105)) x7)) (IntKind.u64.wrap (x7 + 5)) (wrap64 (x8 - 1)))) else (radix_FromBase32.l0 k x0 x4 x5 (Go.bits .or .u64 x6 (shl .u64 (IntKind.u64.wrap (t105)) x7)) (IntKind.u64.wrap (x7 + 5)) (wrap64 (x8 - 1)))) else (none)))) else (none)) else (none)) else (if x6 = 0 then (some (strOfNums x5, 0)) else (some ((⟨#[]⟩ : ByteArray), 22)))
def radix_FromBase32.f (k : Nat) (a0 : ByteArray) : Option (ByteArray × Int) := if (wrap64 (Int.tdiv (wrap64 ((wrap64 (8 * (wrap64 (Int.tdiv (wrap64 (5 * (a0.size : Int))) 8)))) + 4)) 5)) = (a0.size : Int) then (if 0 ≤ (wrap64 (Int.tdiv (wrap64 (5 * (a0.size : Int))) 8)) then (if (wrap64 (Int.tdiv (wrap64 (5 * (a0.size : Int))) 8) : Int).toNat ≤ 281474976710656 then (radix_FromBase32.l0 k a0 (wrap64 (Int.tdiv (wrap64 (5 * (a0.size : Int))) 8)) (([] : List Int)) 0 0 (wrap64 ((a0.size : Int) - 1))) else (none)) else (none)) else (some ((⟨#[]⟩ : ByteArray), 21))
theorem radix_FromBase32.mono_l : ∀ k, (∀ y0 y1 y2 y3 y4 y5, LeO (radix_FromBase32.l0 k y0 y1 y2 y3 y4 y5) (radix_FromBase32.l0 (k + 1) y0 y1 y2 y3 y4 y5))
  | 0 => fun _ _ _ _ _ _ r h => by simp [radix_FromBase32.l0] at h
  | k + 1 => by
    have ih0 := radix_FromBase32.mono_l k
    · intro y0 y1 y2 y3 y4 y5
      unfold radix_FromBase32.l0
      repeat' first
      | (with_reducible exact ih0 _ _ _ _ _ _)
      | (with_reducible exact LeO.refl _)
      | (with_reducible exact LeO.none _)
      | (with_reducible refine LeO.ite ?_ ?_)
      | (with_reducible refine LeO.bind ?_ (fun _ => ?_))
      | exact ih0 _ _ _ _ _ _
      | exact LeO.none _
      | refine LeO.ite ?_ ?_
      | refine LeO.bind ?_ (fun _ => ?_)
theorem radix_FromBase32.mono : ∀ a0 k, LeO (radix_FromBase32.f k a0) (radix_FromBase32.f (k + 1) a0) := by
  intro a0 k
  have ih0 := radix_FromBase32.mono_l k
  unfold radix_FromBase32.f
  repeat' first
      | (with_reducible exact ih0 _ _ _ _ _ _)
      | (with_reducible exact LeO.refl _)
      | (with_reducible exact LeO.none _)
      | (with_reducible refine LeO.ite ?_ ?_)
      | (with_reducible refine LeO.bind ?_ (fun _ => ?_))
      | exact ih0 _ _ _ _ _ _
      | exact LeO.none _
      | refine LeO.ite ?_ ?_
      | refine LeO.bind ?_ (fun _ => ?_)
set_option maxHeartbeats 8000000 in
set_option maxRecDepth 100000 in
theorem radix_FromBase32.calls (k : Nat) (a0 : ByteArray) (r1 : ByteArray) (r2 : Int) (w : World) (h : radix_FromBase32.f k a0 = some (r1, r2)) :
    Calls Tryd.prog 45 #[.string a0] w fun e w' => e = .returned (.tuple #[.string r1, .int .i64 r2]) ∧ Below w.heap.size w w' := by
  have HB := Aside0.mk (Below.refl w.heap.size w)
  have H : (if (wrap64 (Int.tdiv (wrap64 ((wrap64 (8 * (wrap64 (Int.tdiv (wrap64 (5 * (a0.size : Int))) 8)))) + 4)) 5)) = (a0.size : Int) then (if 0 ≤ (wrap64 (Int.tdiv (wrap64 (5 * (a0.size : Int))) 8)) then (if (wrap64 (Int.tdiv (wrap64 (5 * (a0.size : Int))) 8) : Int).toNat ≤ 281474976710656 then (radix_FromBase32.l0 k a0 (wrap64 (Int.tdiv (wrap64 (5 * (a0.size : Int))) 8)) (([] : List Int)) 0 0 (wrap64 ((a0.size : Int) - 1))) else (none)) else (none)) else (some ((⟨#[]⟩ : ByteArray), 21))) = some (r1, r2) := h
  clear h
  by_cases c2 : (wrap64 (Int.tdiv (wrap64 ((wrap64 (8 * (wrap64 (Int.tdiv (wrap64 (5 * (a0.size : Int))) 8)))) + 4)) 5)) = (a0.size : Int)
  · rw [if_pos c2] at H
    have c2b0 : ((wrap64 (Int.tdiv (wrap64 ((wrap64 (8 * (wrap64 (Int.tdiv (wrap64 (5 * (a0.size : Int))) 8)))) + 4)) 5)) == (a0.size : Int)) = true := beq_iff_eq.mpr c2
    have c2b1 : ((wrap64 (Int.tdiv (wrap64 ((wrap64 (8 * (wrap64 (Int.tdiv (wrap64 (5 * (a0.size : Int))) 8)))) + 4)) 5)) != (a0.size : Int)) = false := bne_eq_false_iff_eq.mpr c2
    clear c2
    obtain ⟨ji3, hji3⟩ : ∃ j_ : Int, (wrap64 (Int.tdiv (wrap64 (5 * (a0.size : Int))) 8)) = j_ := ⟨_, rfl⟩
    replace H : (if 0 ≤ (ji3) then (if (ji3 : Int).toNat ≤ 281474976710656 then (radix_FromBase32.l0 k a0 ji3 (([] : List Int)) 0 0 (wrap64 ((a0.size : Int) - 1))) else (none)) else (none)) = some (r1, r2) := by first | (rw [hji3] at H; exact H) | (simp only [hji3] at H ⊢; exact H)
    (try rw [hji3] at c2b0)
    (try rw [hji3] at c2b1)
    have hji3w : (IntKind.i64.wrap (Int.tdiv (wrap64 (5 * (a0.size : Int))) 8)) = ji3 := (i64_w _).trans hji3
    by_cases c4 : 0 ≤ (ji3)
    · rw [if_pos c4] at H
      have c4b0 := eq_true c4
      have c4b1 : decide (0 ≤ (ji3)) = true := decide_eq_true c4
      clear c4
      by_cases c5 : (ji3 : Int).toNat ≤ 281474976710656
      · rw [if_pos c5] at H
        have c5b0 := eq_true c5
        have c5b1 : decide ((ji3 : Int).toNat ≤ 281474976710656) = true := decide_eq_true c5
        clear c5
        obtain ⟨y102, hy102⟩ : ∃ y_ : List Int, y_ = (([] : List Int)) := ⟨_, rfl⟩
        replace H : (radix_FromBase32.l0 k a0 ji3 y102 0 0 (wrap64 ((a0.size : Int) - 1))) = some (r1, r2) := by first | (rw [hy102]; with_reducible exact H) | (have H2_ := (Option.bind_some _ _).symm.trans H; rw [hy102]; with_reducible exact H2_) | (have H2_ := (Option.bind_some _ _).symm.trans H; with_reducible exact H2_) | with_reducible exact H | (rw [hy102]; exact H) | exact H
        have Ny102 := Aside0.mk hy102
        clear hy102
        have H' := Aside0.mk H
        clear H
        go_enter Tryd.func45, Tryd.ntmps45
        go_wp2_with (first | ((with_reducible refine gate_dst (N := 22) rfl ?_); (try (refine gate_guard (by rfl) ?_; dsimp only)); refine Kd.R_make0 (Kd.int .u8) _ 5 rfl (N := 22) rfl 41 _ _ rfl ji3 rfl rfl Tryd.underlying41 (.int .u8 0) 1 info5 rfl (by decide) (by omega) 0 (ok := fun _ => True) (okp := fun _ => True) rfl (fun _ hk => hk) trivial (of_decide_eq_true (by first | (with_reducible assumption) | assumption)) (Nat.le_trans (Nat.mul_le_mul_right _ (of_decide_eq_true (by first | (with_reducible assumption) | assumption) : ji3.toNat ≤ 281474976710656)) (by omega)) (Below.refl _ _) (Nat.le_refl _) ?_; intro v103 w6 ho7 hb hg_ hnew_; clear hg_ hnew_; (first | rw [← Ny102.out] at ho7 | (simp only [Int.reduceToNat] at ho7; rw [← Ny102.out] at ho7)); have n0_ := Aside0.mk (Kd.R_lower ho7 (below_size (by repeat (first | (with_reducible first | exact HB.out | apply below_alloc | apply pw_below_drewN | apply below_drew1) | exact HB.out)))); have n1_ := Aside0.mk (below_step (by repeat (first | (with_reducible first | exact HB.out | apply below_alloc | apply pw_below_drewN | apply below_drew1) | exact HB.out)) hb); clear HB; have HO104 := n0_; have HB := n1_; clear n0_ n1_; clear hb ho7))
        go_loopg [5, 6, 7, 8] k (fun kq v5 v6 v7 v8 w' => ∃ (x5_1 : List Int) (x6_1 : Int) (x7_1 : Int) (x8_1 : Int), v6 = .int .u64 x6_1 ∧ v7 = .int .u64 x7_1 ∧ v8 = .int .i64 x8_1 ∧ Aside0 (radix_FromBase32.l0 kq a0 ji3 x5_1 x6_1 x7_1 x8_1 = some (r1, r2)) ∧ Aside0 (kq ≤ k) ∧ Aside0 (Kd.R (Kd.int .u8) 5 w' w.heap.size (fun _ => True) v5 x5_1) ∧ Aside0 (Below w.heap.size w w'))
        case atStart => exact ⟨(y102), (0), (0), (wrap64 ((a0.size : Int) - 1)), (by first | rfl | (simp; done) | (simp [*]; done)), (by first | rfl | (simp; done) | (simp [*]; done)), (by first | rfl | (simp; done) | (simp [*]; done)), H', ⟨Nat.le_refl _⟩, ⟨by (with_reducible repeat (first | apply Kd.R_alloc | apply Kd.R_drewN | apply Kd.R_drew)); exact HO104.out⟩, ⟨by repeat (first | (with_reducible first | exact HB.out | apply below_alloc | apply pw_below_drewN | apply below_drew1) | exact HB.out)⟩⟩
        case round =>
          clear H'
          try clear c2
          try clear c2b0
          try clear c2b1
          try clear p2
          try clear c4
          try clear c4b0
          try clear c4b1
          try clear c5
          try clear c5b0
          try clear c5b1
          try clear p6
          obtain ⟨x5_1, x6_1, x7_1, x8_1, rfl, rfl, rfl, HA, HK1, HO_5, HB⟩ := hrel
          cases gk with
          | zero => exact absurd HA.out (by simp [radix_FromBase32.l0])
          | succ k1 =>
            have H := HA.out
            clear HA
            simp only [radix_FromBase32.l0] at H
            by_cases c8 : x8_1 ≥ 0
            · rw [if_pos c8] at H
              have c8b0 : decide (0 ≤ x8_1) = true := decide_eq_true c8
              clear c8
              by_cases c9 : 0 ≤ x8_1
              · rw [if_pos c9] at H
                have c9b0 : decide (0 ≤ x8_1) = true := decide_eq_true c9
                clear c9
                by_cases c10 : x8_1 < (a0.size : Int)
                · rw [if_pos c10] at H
                  have c10b0 : decide (x8_1 < (a0.size : Int)) = true := decide_eq_true c10
                  clear c10
                  replace H := Option.bind_eq_some_iff.mp H
                  obtain ⟨t105, A120, H⟩ := H
                  replace H : (if t105 < 0 then (some ((⟨#[]⟩ : ByteArray), 20)) else (if 0 ≤ x7_1 then (if (IntKind.u64.wrap (x7_1 + 5)) ≥ 8 then (if (x5_1.length : Int) < ji3 then (if x5_1.length < 140737488355328 then (radix_FromBase32.l0 k1 a0 ji3 (x5_1 ++ [(Go.bits .or .u64 x6_1 (shl .u64 (IntKind.u64.wrap (t105)) x7_1)) % 256]) ((Go.bits .or .u64 x6_1 (shl .u64 (IntKind.u64.wrap (t105)) x7_1)) / 256) (IntKind.u64.wrap ((IntKind.u64.wrap (x7_1 + 5)) - 8)) (wrap64 (x8_1 - 1))) else (none)) else (radix_FromBase32.l0 k1 a0 ji3 x5_1 (Go.bits .or .u64 x6_1 (shl .u64 (IntKind.u64.wrap (t105)) x7_1)) (IntKind.u64.wrap (x7_1 + 5)) (wrap64 (x8_1 - 1)))) else (radix_FromBase32.l0 k1 a0 ji3 x5_1 (Go.bits .or .u64 x6_1 (shl .u64 (IntKind.u64.wrap (t105)) x7_1)) (IntKind.u64.wrap (x7_1 + 5)) (wrap64 (x8_1 - 1)))) else (none))) = some (r1, r2) := H
                  have A12 := Aside0.mk A120
                  clear A120
                  by_cases c13 : t105 < 0
                  · rw [if_pos c13] at H
                    have c13b0 : decide (t105 < 0) = true := decide_eq_true c13
                    clear c13
                    simp only [Option.some.injEq, Prod.mk.injEq] at H
                    obtain ⟨rfl, rfl⟩ := H
                    have p11 : 0 ≤ (x8_1 : Int) := of_decide_eq_true (by first | (with_reducible assumption) | assumption)
                    have q11 : x8_1 < (a0.size : Int) := of_decide_eq_true (by first | (with_reducible assumption) | assumption)
                    have hx11 := bt_at a0 x8_1
                    replace p11 := eq_true p11
                    replace q11 := eq_true q11
                    go_wp2_with (first | ((with_reducible refine gate_callee (f := 26) rfl ?_); refine goesL_ (some 33) rfl rfl Tryd.func26 (by kernel_rfl) rfl #[.int .u8 (bt a0 x8_1)] rfl (by (try simp only [List.map_toArray, List.map_cons, List.map_nil]); first | done | rfl | (simp only [List.length_drop, List.length_take]; rfl)) ?_; (with_reducible refine (radix_Value.calls (bt a0 x8_1) t105 _ A12.out).mono ?_); rintro e w' ⟨rfl, ⟨nd, rfl⟩⟩; refine ⟨_, rfl, ?_⟩))
                    go_ret2
                    exact ⟨by first | rfl | (simp [errW_none, errW_some] <;> rfl) | (simp only [← hji3]; first | rfl | (simp [errW_none, errW_some] <;> rfl)) | (simp [*, errW_none, errW_some] <;> rfl), by repeat (first | (with_reducible first | exact HB.out | apply below_alloc | apply pw_below_drewN | apply below_drew1) | exact HB.out)⟩
                  · rw [if_neg c13] at H
                    have c13b0 : decide (t105 < 0) = false := decide_eq_false c13
                    clear c13
                    by_cases c14 : 0 ≤ x7_1
                    · rw [if_pos c14] at H
                      have c14b0 := eq_true c14
                      have c14b1 : decide (0 ≤ x7_1) = true := decide_eq_true c14
                      clear c14
                      obtain ⟨ji15, hji15⟩ : ∃ j_ : Int, (shl .u64 (IntKind.u64.wrap (t105)) x7_1) = j_ := ⟨_, rfl⟩
                      replace H : (if (IntKind.u64.wrap (x7_1 + 5)) ≥ 8 then (if (x5_1.length : Int) < ji3 then (if x5_1.length < 140737488355328 then (radix_FromBase32.l0 k1 a0 ji3 (x5_1 ++ [(Go.bits .or .u64 x6_1 (ji15)) % 256]) ((Go.bits .or .u64 x6_1 (ji15)) / 256) (IntKind.u64.wrap ((IntKind.u64.wrap (x7_1 + 5)) - 8)) (wrap64 (x8_1 - 1))) else (none)) else (radix_FromBase32.l0 k1 a0 ji3 x5_1 (Go.bits .or .u64 x6_1 (ji15)) (IntKind.u64.wrap (x7_1 + 5)) (wrap64 (x8_1 - 1)))) else (radix_FromBase32.l0 k1 a0 ji3 x5_1 (Go.bits .or .u64 x6_1 (ji15)) (IntKind.u64.wrap (x7_1 + 5)) (wrap64 (x8_1 - 1)))) = some (r1, r2) := by first | (rw [hji15] at H; exact H) | (simp only [hji15] at H ⊢; exact H)
                      (try rw [hji15] at A12)
                      have hji15_ : (IntKind.u64.wrap ((IntKind.u64.wrap (t105)) * 2 ^ min x7_1.toNat 64)) = ji15 := hji15
                      have hji15z : x7_1 ≤ 64 → (IntKind.u64.wrap ((IntKind.u64.wrap (t105)) * 2 ^ x7_1.toNat)) = ji15 := shl_small hji15
                      by_cases c16 : (IntKind.u64.wrap (x7_1 + 5)) ≥ 8
                      · rw [if_pos c16] at H
                        have c16b0 : decide (8 ≤ (IntKind.u64.wrap (x7_1 + 5))) = true := decide_eq_true c16
                        clear c16
                        by_cases c17 : (x5_1.length : Int) < ji3
                        · rw [if_pos c17] at H
                          have c17b0 : decide ((x5_1.length : Int) < ji3) = true := decide_eq_true c17
                          clear c17
                          by_cases c18 : x5_1.length < 140737488355328
                          · rw [if_pos c18] at H
                            have LMc18 := Aside0.mk c18
                            clear c18
                            obtain ⟨y106, hy106⟩ : ∃ y_ : List Int, y_ = (x5_1 ++ [(Go.bits .or .u64 x6_1 (ji15)) % 256]) := ⟨_, rfl⟩
                            replace H : (radix_FromBase32.l0 k1 a0 ji3 y106 ((Go.bits .or .u64 x6_1 (ji15)) / 256) (IntKind.u64.wrap ((IntKind.u64.wrap (x7_1 + 5)) - 8)) (wrap64 (x8_1 - 1))) = some (r1, r2) := by first | (rw [hy106]; with_reducible exact H) | (have H2_ := (Option.bind_some _ _).symm.trans H; rw [hy106]; with_reducible exact H2_) | (have H2_ := (Option.bind_some _ _).symm.trans H; with_reducible exact H2_) | with_reducible exact H | (rw [hy106]; exact H) | exact H
                            have Ny106 := Aside0.mk hy106
                            clear hy106
                            have H' := Aside0.mk H
                            clear H
                            have p11 : 0 ≤ (x8_1 : Int) := of_decide_eq_true (by first | (with_reducible assumption) | assumption)
                            have q11 : x8_1 < (a0.size : Int) := of_decide_eq_true (by first | (with_reducible assumption) | assumption)
                            have hx11 := bt_at a0 x8_1
                            replace p11 := eq_true p11
                            replace q11 := eq_true q11
                            go_wp2_with (first | ((with_reducible refine gate_callee (f := 26) rfl ?_); refine goesL_ (some 33) rfl rfl Tryd.func26 (by kernel_rfl) rfl #[.int .u8 (bt a0 x8_1)] rfl (by (try simp only [List.map_toArray, List.map_cons, List.map_nil]); first | done | rfl | (simp only [List.length_drop, List.length_take]; rfl)) ?_; (with_reducible refine (radix_Value.calls (bt a0 x8_1) t105 _ A12.out).mono ?_); rintro e w' ⟨rfl, ⟨nd, rfl⟩⟩; refine ⟨_, rfl, ?_⟩; obtain ⟨Ao19, co19, eo19⟩ := Kd.R_slice HO_5.out; subst eo19) | ((with_reducible refine gate_builtin (b := .append) (xs := #[.tmp 52, .tmp 55]) rfl ?_); (try (refine gate_guard (by rfl) ?_; dsimp only)); at_builtin; refine Kd.R_append (Kd.int .u8) (w0 := w) w.heap.size rfl (.tmp 52) (.tmp 55) 41 5 (.int .u8 0) 1 rfl Tryd.underlying41 info5 rfl (by decide) (by omega) (.slice Ao19 x5_1.length co19) x5_1 ((Go.bits .or .u64 x6_1 (ji15)) % 256) [.int .u8 ((Go.bits .or .u64 x6_1 (ji15)) % 256)] (fun _ => True) (fun _ => False) rfl rfl ?aP (fun _ hk => hk.elim) ?aF ?aO ?aB ?aS ?aL ?_; (case aP => exact rfl); (case aB => exact (by repeat (first | (with_reducible first | exact HB.out | apply below_alloc | apply pw_below_drewN | apply below_drew1) | exact HB.out))); (case aF => exact (fun _ _ => trivial)); (case aO => exact (by (with_reducible repeat (first | apply Kd.R_alloc | apply Kd.R_drewN | apply Kd.R_drew)); exact HO_5.out)); (case aS => exact (below_size (by repeat (first | (with_reducible first | exact HB.out | apply below_alloc | apply pw_below_drewN | apply below_drew1) | exact HB.out)))); (case aL => have := LMc18.out; omega); intro v107 w20 ho hb hg hat; rw [← Ny106.out] at ho; have n0_ := Aside0.mk (hb); have n1_ := Aside0.mk (ho); clear HB; clear HO_5; have HB := n0_; have HO108 := n1_; clear n0_ n1_; clear ho hb hg hat))
                            go_roundg k1
                            case measure => have := HK1.out; omega
                            case rel => exact ⟨(y106), ((Go.bits .or .u64 x6_1 (ji15)) / 256), (IntKind.u64.wrap ((IntKind.u64.wrap (x7_1 + 5)) - 8)), (wrap64 (x8_1 - 1)), (by first | rfl | (simp; done) | (simp only [← hji15] <;> (first | rfl | simp)) | (simp [*]; done)), (by first | rfl | (simp; done) | (simp [*]; done)), (by first | rfl | (simp; done) | (simp [*]; done)), H', ⟨by have := HK1.out; omega⟩, ⟨by (with_reducible repeat (first | apply Kd.R_alloc | apply Kd.R_drewN | apply Kd.R_drew)); exact HO108.out⟩, ⟨by repeat (first | (with_reducible first | exact HB.out | apply below_alloc | apply pw_below_drewN | apply below_drew1) | exact HB.out)⟩⟩
                          · rw [if_neg c18] at H
                            exact absurd H (by simp)
                        · rw [if_neg c17] at H
                          have c17b0 : decide ((x5_1.length : Int) < ji3) = false := decide_eq_false c17
                          clear c17
                          have H' := Aside0.mk H
                          clear H
                          have p11 : 0 ≤ (x8_1 : Int) := of_decide_eq_true (by first | (with_reducible assumption) | assumption)
                          have q11 : x8_1 < (a0.size : Int) := of_decide_eq_true (by first | (with_reducible assumption) | assumption)
                          have hx11 := bt_at a0 x8_1
                          replace p11 := eq_true p11
                          replace q11 := eq_true q11
                          go_wp2_with (first | ((with_reducible refine gate_callee (f := 26) rfl ?_); refine goesL_ (some 33) rfl rfl Tryd.func26 (by kernel_rfl) rfl #[.int .u8 (bt a0 x8_1)] rfl (by (try simp only [List.map_toArray, List.map_cons, List.map_nil]); first | done | rfl | (simp only [List.length_drop, List.length_take]; rfl)) ?_; (with_reducible refine (radix_Value.calls (bt a0 x8_1) t105 _ A12.out).mono ?_); rintro e w' ⟨rfl, ⟨nd, rfl⟩⟩; refine ⟨_, rfl, ?_⟩; obtain ⟨Ao21, co21, eo21⟩ := Kd.R_slice HO_5.out; subst eo21))
                          go_roundg k1
                          case measure => have := HK1.out; omega
                          case rel => exact ⟨(x5_1), (Go.bits .or .u64 x6_1 (ji15)), (IntKind.u64.wrap (x7_1 + 5)), (wrap64 (x8_1 - 1)), (by first | rfl | (simp; done) | (simp only [← hji15] <;> (first | rfl | simp)) | (simp [*]; done)), (by first | rfl | (simp; done) | (simp [*]; done)), (by first | rfl | (simp; done) | (simp [*]; done)), H', ⟨by have := HK1.out; omega⟩, ⟨by (with_reducible repeat (first | apply Kd.R_alloc | apply Kd.R_drewN | apply Kd.R_drew)); exact HO_5.out⟩, ⟨by repeat (first | (with_reducible first | exact HB.out | apply below_alloc | apply pw_below_drewN | apply below_drew1) | exact HB.out)⟩⟩
                      · rw [if_neg c16] at H
                        have c16b0 : decide (8 ≤ (IntKind.u64.wrap (x7_1 + 5))) = false := decide_eq_false c16
                        clear c16
                        have H' := Aside0.mk H
                        clear H
                        have p11 : 0 ≤ (x8_1 : Int) := of_decide_eq_true (by first | (with_reducible assumption) | assumption)
                        have q11 : x8_1 < (a0.size : Int) := of_decide_eq_true (by first | (with_reducible assumption) | assumption)
                        have hx11 := bt_at a0 x8_1
                        replace p11 := eq_true p11
                        replace q11 := eq_true q11
                        go_wp2_with (first | ((with_reducible refine gate_callee (f := 26) rfl ?_); refine goesL_ (some 33) rfl rfl Tryd.func26 (by kernel_rfl) rfl #[.int .u8 (bt a0 x8_1)] rfl (by (try simp only [List.map_toArray, List.map_cons, List.map_nil]); first | done | rfl | (simp only [List.length_drop, List.length_take]; rfl)) ?_; (with_reducible refine (radix_Value.calls (bt a0 x8_1) t105 _ A12.out).mono ?_); rintro e w' ⟨rfl, ⟨nd, rfl⟩⟩; refine ⟨_, rfl, ?_⟩))
                        go_roundg k1
                        case measure => have := HK1.out; omega
                        case rel => exact ⟨(x5_1), (Go.bits .or .u64 x6_1 (ji15)), (IntKind.u64.wrap (x7_1 + 5)), (wrap64 (x8_1 - 1)), (by first | rfl | (simp; done) | (simp only [← hji15] <;> (first | rfl | simp)) | (simp [*]; done)), (by first | rfl | (simp; done) | (simp [*]; done)), (by first | rfl | (simp; done) | (simp [*]; done)), H', ⟨by have := HK1.out; omega⟩, ⟨by (with_reducible repeat (first | apply Kd.R_alloc | apply Kd.R_drewN | apply Kd.R_drew)); exact HO_5.out⟩, ⟨by repeat (first | (with_reducible first | exact HB.out | apply below_alloc | apply pw_below_drewN | apply below_drew1) | exact HB.out)⟩⟩
                    · rw [if_neg c14] at H
                      exact absurd H (by simp)
                · rw [if_neg c10] at H
                  exact absurd H (by simp)
              · rw [if_neg c9] at H
                exact absurd H (by simp)
            · rw [if_neg c8] at H
              have c8b0 : decide (0 ≤ x8_1) = false := decide_eq_false c8
              clear c8
              by_cases c22 : x6_1 = 0
              · rw [if_pos c22] at H
                have c22b0 : (x6_1 == 0) = true := beq_iff_eq.mpr c22
                have c22b1 : (x6_1 != 0) = false := bne_eq_false_iff_eq.mpr c22
                clear c22
                simp only [Option.some.injEq, Prod.mk.injEq] at H
                obtain ⟨rfl, rfl⟩ := H
                have hcv23 := own_string (P := Tryd.prog) Tryd.underlying41 Tryd.underlying5 Tryd.underlying9 (Kd.own_of_R HO_5.out)
                go_wp2
                go_ret2
                exact ⟨by first | rfl | (simp [errW_none, errW_some] <;> rfl) | (simp only [← hji3]; first | rfl | (simp [errW_none, errW_some] <;> rfl)) | (simp [*, errW_none, errW_some] <;> rfl), by repeat (first | (with_reducible first | exact HB.out | apply below_alloc | apply pw_below_drewN | apply below_drew1) | exact HB.out)⟩
              · rw [if_neg c22] at H
                have c22b0 : (x6_1 == 0) = false := beq_eq_false_iff_ne.mpr c22
                have c22b1 : (x6_1 != 0) = true := bne_iff_ne.mpr c22
                simp only [Option.some.injEq, Prod.mk.injEq] at H
                obtain ⟨rfl, rfl⟩ := H
                go_wp2
                go_ret2
                exact ⟨by first | rfl | (simp [errW_none, errW_some] <;> rfl) | (simp only [← hji3]; first | rfl | (simp [errW_none, errW_some] <;> rfl)) | (simp [*, errW_none, errW_some] <;> rfl), by repeat (first | (with_reducible first | exact HB.out | apply below_alloc | apply pw_below_drewN | apply below_drew1) | exact HB.out)⟩
      · rw [if_neg c5] at H
        exact absurd H (by simp)
    · rw [if_neg c4] at H
      exact absurd H (by simp)
  · rw [if_neg c2] at H
    have c2b0 : ((wrap64 (Int.tdiv (wrap64 ((wrap64 (8 * (wrap64 (Int.tdiv (wrap64 (5 * (a0.size : Int))) 8)))) + 4)) 5)) == (a0.size : Int)) = false := beq_eq_false_iff_ne.mpr c2
    have c2b1 : ((wrap64 (Int.tdiv (wrap64 ((wrap64 (8 * (wrap64 (Int.tdiv (wrap64 (5 * (a0.size : Int))) 8)))) + 4)) 5)) != (a0.size : Int)) = true := bne_iff_ne.mpr c2
    simp only [Option.some.injEq, Prod.mk.injEq] at H
    obtain ⟨rfl, rfl⟩ := H
    go_enter Tryd.func45, Tryd.ntmps45
    go_wp2
    go_ret2
    exact ⟨by first | rfl | (simp [errW_none, errW_some] <;> rfl) | (simp [*, errW_none, errW_some] <;> rfl), by repeat (first | (with_reducible first | exact HB.out | apply below_alloc | apply pw_below_drewN | apply below_drew1) | exact HB.out)⟩

end Go.Proofs.YtbllmpfdhcbkpaaDoor.Q
