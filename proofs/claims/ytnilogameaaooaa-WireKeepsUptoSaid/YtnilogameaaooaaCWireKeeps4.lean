/- Texts of this claim, put together: Q26, Whole, FeedApp, ExtFedIn, FedFacts, Frame8, KeepPure. -/
import Derived.Test.YtnilogameaaooaaCWireKeeps1
import Derived.Test.YtnilogameaaooaaCWireKeeps2
import Derived.Test.YtnilogameaaooaaCWireKeeps3
import Derived.Laws.CopyRow
import Derived.Laws.CopyOwn
import Derived.Lib.AppendStr
/- By a program of this session's: a plain Lean function for a Go function, and its contract. -/
namespace Go.Proofs.Ytnilogameaaooaa.Q
open Go.RowKit Go.Proofs.YtnilogameaaooaaW.PrintWords Go.Proofs.YtnilogameaaooaaW.PrintLast Go.Proofs.YtnilogameaaooaaW.PrintMore
attribute [local go_sem] max2_int min2_int max_two min_two max_three min_three max_four min_four Go.Proofs.Ytnilogameaaooaa.Ord.str_leq Go.Proofs.Ytnilogameaaooaa.Ord.str_gtr Go.Proofs.Ytnilogameaaooaa.Ord.str_geq   -- for this text's walks alone
set_option linter.unusedVariables false
set_option linter.unusedSimpArgs false

/-! ### depotlaw03_awake: function 18 -/
def depotlaw03_awake.j0 : Nat → Bool → Option (Bool)
  | 0, _ => none
  | k + 1, x8 => if x8 = true then (some false) else ((wire_Int.f 7).bind fun t124 => ((wire_Text.f (⟨#[97]⟩ : ByteArray)).bind fun t125 => (if t124.size + t125.size ≤ 9223372036854775807 then ((wire_Split.f (t124 ++ t125) (⟨#[105, 116]⟩ : ByteArray) 1).bind fun bt126 => (if bt126.2.1 = 0 then (if (bt126.1.length : Int) = 2 then (if 0 < (bt126.1.length : Int) then (if (rd_T55 bt126.1 0).f0 = true then (if ((rd_T55 bt126.1 0).f1) = 7 then (if 1 < (bt126.1.length : Int) then (some (((rd_T55 bt126.1 1).f2).toList == ([97] : List UInt8))) else (none)) else (some false)) else (some false)) else (none)) else (some false)) else (some false))) else (none))))
def depotlaw03_awake.f (k : Nat)  : Option (Bool) := (wire_Text.f (⟨#[97]⟩ : ByteArray)).bind fun t122 => (if t122.toList = ([1, 0, 0, 0, 0, 0, 0, 0, 97, 0, 0, 0, 0, 0, 0, 0] : List UInt8) then ((wire_Int.f 258).bind fun t123 => (depotlaw03_awake.j0 k (t123.toList != ([2, 1, 0, 0, 0, 0, 0, 0] : List UInt8)))) else (depotlaw03_awake.j0 k true))
theorem depotlaw03_awake.mono_l : ∀ k, (∀ y0, LeO (depotlaw03_awake.j0 k y0) (depotlaw03_awake.j0 (k + 1) y0))
  | 0 => fun _ r h => by simp [depotlaw03_awake.j0] at h
  | k + 1 => by
    have ih0 := depotlaw03_awake.mono_l k
    · intro y0
      unfold depotlaw03_awake.j0
      repeat' first
      | (with_reducible exact ih0 _)
      | (with_reducible exact LeO.refl _)
      | (with_reducible exact LeO.none _)
      | (with_reducible refine LeO.ite ?_ ?_)
      | (with_reducible refine LeO.bind ?_ (fun _ => ?_))
      | exact ih0 _
      | exact LeO.none _
      | refine LeO.ite ?_ ?_
      | refine LeO.bind ?_ (fun _ => ?_)
theorem depotlaw03_awake.mono : ∀ k, LeO (depotlaw03_awake.f k ) (depotlaw03_awake.f (k + 1) ) := by
  intro  k
  have ih0 := depotlaw03_awake.mono_l k
  unfold depotlaw03_awake.f
  repeat' first
      | (with_reducible exact ih0 _)
      | (with_reducible exact LeO.refl _)
      | (with_reducible exact LeO.none _)
      | (with_reducible refine LeO.ite ?_ ?_)
      | (with_reducible refine LeO.bind ?_ (fun _ => ?_))
      | exact ih0 _
      | exact LeO.none _
      | refine LeO.ite ?_ ?_
      | refine LeO.bind ?_ (fun _ => ?_)
set_option maxHeartbeats 8000000 in
set_option maxRecDepth 100000 in
theorem depotlaw03_awake.calls (k : Nat)  (r : Bool) (w : World) (h : depotlaw03_awake.f k  = some r) :
    Calls Try.prog 18 #[] w fun e w' => e = .returned (.bool r) ∧ Below w.heap.size w w' := by
  have hu31 := Try.underlying31
  have HB := Aside0.mk (Below.refl w.heap.size w)
  have H : ((wire_Text.f (⟨#[97]⟩ : ByteArray)).bind fun t122 => (if t122.toList = ([1, 0, 0, 0, 0, 0, 0, 0, 97, 0, 0, 0, 0, 0, 0, 0] : List UInt8) then ((wire_Int.f 258).bind fun t123 => (depotlaw03_awake.j0 k (t123.toList != ([2, 1, 0, 0, 0, 0, 0, 0] : List UInt8)))) else (depotlaw03_awake.j0 k true))) = some r := h
  clear h
  have HC1 := Aside0.mk H
  clear H
  go_enter Try.func18, Try.ntmps18
  go_upto_region 1 with (fail)
  go_cut [8] (fun v8 wc => ∃ (kq : Nat) (x8_0 : Bool), v8 = .bool x8_0 ∧ Aside0 (depotlaw03_awake.j0 kq x8_0 = some r) ∧ Aside0 (kq ≤ k) ∧ Aside0 (Below w.heap.size w wc))
  case first =>
    have H := HC1.out
    clear HC1
    replace H := Option.bind_eq_some_iff.mp H
    obtain ⟨t122, A20, H⟩ := H
    replace H : (if t122.toList = ([1, 0, 0, 0, 0, 0, 0, 0, 97, 0, 0, 0, 0, 0, 0, 0] : List UInt8) then ((wire_Int.f 258).bind fun t123 => (depotlaw03_awake.j0 k (t123.toList != ([2, 1, 0, 0, 0, 0, 0, 0] : List UInt8)))) else (depotlaw03_awake.j0 k true)) = some r := H
    have A2 := Aside0.mk A20
    clear A20
    by_cases c3 : t122.toList = ([1, 0, 0, 0, 0, 0, 0, 0, 97, 0, 0, 0, 0, 0, 0, 0] : List UInt8)
    · rw [if_pos c3] at H
      have c3b0 : (t122.toList == ([1, 0, 0, 0, 0, 0, 0, 0, 97, 0, 0, 0, 0, 0, 0, 0] : List UInt8)) = true := beq_iff_eq.mpr c3
      have c3b1 : (t122.toList != ([1, 0, 0, 0, 0, 0, 0, 0, 97, 0, 0, 0, 0, 0, 0, 0] : List UInt8)) = false := bne_eq_false_iff_eq.mpr c3
      clear c3
      (first | rw [c3b0] | (simp only [i64_w, i32_w]; rw [c3b0]) | skip)
      replace H := Option.bind_eq_some_iff.mp H
      obtain ⟨t123, A40, H⟩ := H
      replace H : (depotlaw03_awake.j0 k (t123.toList != ([2, 1, 0, 0, 0, 0, 0, 0] : List UInt8))) = some r := H
      have A4 := Aside0.mk A40
      clear A40
      have H' := Aside0.mk H
      clear H
      go_wp2_with (first | ((with_reducible refine gate_callee (f := 15) rfl ?_); refine goesL_ (some 3) rfl rfl Try.func15 (by kernel_rfl) rfl #[.string (⟨#[97]⟩ : ByteArray)] rfl (by (try simp only [List.map_toArray, List.map_cons, List.map_nil]); first | done | rfl | (simp only [List.length_drop, List.length_take]; rfl)) ?_; (with_reducible refine (wire_Text.calls (⟨#[97]⟩ : ByteArray) t122 _ A2.out).mono ?_); rintro e w5 ⟨rfl, hb⟩; refine ⟨_, rfl, ?_⟩; have n0_ := Aside0.mk (below_step (by repeat (first | (with_reducible first | exact HB.out | apply below_alloc | apply pw_below_drewN | apply below_drew1) | exact HB.out)) hb); clear HB; have HB := n0_; clear n0_; (try clear hb); (try clear hb2); (try clear hk); (try clear hi)) | (go_at_call 13; (with_reducible refine (wire_Int.calls 258 t123 _ A4.out).mono ?_); rintro e w6 ⟨rfl, hb⟩; have n0_ := Aside0.mk (below_step (by repeat (first | (with_reducible first | exact HB.out | apply below_alloc | apply pw_below_drewN | apply below_drew1) | exact HB.out)) hb); clear HB; have HB := n0_; clear n0_; (try clear hb); (try clear hb2); (try clear hk); (try clear hi)))
      go_meet
      case rel => exact ⟨_, ((t123.toList != ([2, 1, 0, 0, 0, 0, 0, 0] : List UInt8))), (by first | rfl | (simp; done) | (simp [*]; done)), H', ⟨by first | omega | exact Nat.le_refl _⟩, ⟨by repeat (first | (with_reducible first | exact HB.out | apply below_alloc | apply pw_below_drewN | apply below_drew1) | exact HB.out)⟩⟩
    · rw [if_neg c3] at H
      have c3b0 : (t122.toList == ([1, 0, 0, 0, 0, 0, 0, 0, 97, 0, 0, 0, 0, 0, 0, 0] : List UInt8)) = false := beq_eq_false_iff_ne.mpr c3
      have c3b1 : (t122.toList != ([1, 0, 0, 0, 0, 0, 0, 0, 97, 0, 0, 0, 0, 0, 0, 0] : List UInt8)) = true := bne_iff_ne.mpr c3
      (first | rw [c3b0] | (simp only [i64_w, i32_w]; rw [c3b0]) | skip)
      have H' := Aside0.mk H
      clear H
      go_wp2_with (first | ((with_reducible refine gate_callee (f := 15) rfl ?_); refine goesL_ (some 3) rfl rfl Try.func15 (by kernel_rfl) rfl #[.string (⟨#[97]⟩ : ByteArray)] rfl (by (try simp only [List.map_toArray, List.map_cons, List.map_nil]); first | done | rfl | (simp only [List.length_drop, List.length_take]; rfl)) ?_; (with_reducible refine (wire_Text.calls (⟨#[97]⟩ : ByteArray) t122 _ A2.out).mono ?_); rintro e w7 ⟨rfl, hb⟩; refine ⟨_, rfl, ?_⟩; have n0_ := Aside0.mk (below_step (by repeat (first | (with_reducible first | exact HB.out | apply below_alloc | apply pw_below_drewN | apply below_drew1) | exact HB.out)) hb); clear HB; have HB := n0_; clear n0_; (try clear hb); (try clear hb2); (try clear hk); (try clear hi)))
      go_meet
      case rel => exact ⟨_, (true), (by first | rfl | (simp; done) | (simp [*]; done)), H', ⟨by first | omega | exact Nat.le_refl _⟩, ⟨by repeat (first | (with_reducible first | exact HB.out | apply below_alloc | apply pw_below_drewN | apply below_drew1) | exact HB.out)⟩⟩
  case rest =>
    clear HC1
    try clear c1
    try clear p2
    try clear c3
    try clear c3b0
    try clear c3b1
    obtain ⟨kq, x8_0, rfl, HA, HJ0, HB⟩ := hcut
    cases kq with
    | zero => exact absurd HA.out (by simp [depotlaw03_awake.j0])
    | succ kj0 =>
      have H := HA.out
      clear HA
      simp only [depotlaw03_awake.j0] at H
      by_cases c8 : x8_0 = true
      · subst c8
        have H1 : (some false) = some r := by rw [if_pos rfl] at H; exact H
        clear H
        have H := H1
        clear H1
        obtain rfl := Option.some.inj H
        go_wp2
        go_ret
        exact ⟨by first | rfl | (simp [errW_none, errW_some] <;> rfl) | (simp [*, errW_none, errW_some] <;> rfl), by repeat (first | (with_reducible first | exact HB.out | apply below_alloc | apply pw_below_drewN | apply below_drew1) | exact HB.out)⟩
      · replace c8 := Bool.eq_false_iff.mpr c8
        subst c8
        have H1 : ((wire_Int.f 7).bind fun t124 => ((wire_Text.f (⟨#[97]⟩ : ByteArray)).bind fun t125 => (if t124.size + t125.size ≤ 9223372036854775807 then ((wire_Split.f (t124 ++ t125) (⟨#[105, 116]⟩ : ByteArray) 1).bind fun bt126 => (if bt126.2.1 = 0 then (if (bt126.1.length : Int) = 2 then (if 0 < (bt126.1.length : Int) then (if (rd_T55 bt126.1 0).f0 = true then (if ((rd_T55 bt126.1 0).f1) = 7 then (if 1 < (bt126.1.length : Int) then (some (((rd_T55 bt126.1 1).f2).toList == ([97] : List UInt8))) else (none)) else (some false)) else (some false)) else (none)) else (some false)) else (some false))) else (none)))) = some r := by rw [if_neg (show ¬ (false = true) by decide)] at H; exact H
        clear H
        have H := H1
        clear H1
        replace H := Option.bind_eq_some_iff.mp H
        obtain ⟨t124, A90, H⟩ := H
        replace H : ((wire_Text.f (⟨#[97]⟩ : ByteArray)).bind fun t125 => (if t124.size + t125.size ≤ 9223372036854775807 then ((wire_Split.f (t124 ++ t125) (⟨#[105, 116]⟩ : ByteArray) 1).bind fun bt126 => (if bt126.2.1 = 0 then (if (bt126.1.length : Int) = 2 then (if 0 < (bt126.1.length : Int) then (if (rd_T55 bt126.1 0).f0 = true then (if ((rd_T55 bt126.1 0).f1) = 7 then (if 1 < (bt126.1.length : Int) then (some (((rd_T55 bt126.1 1).f2).toList == ([97] : List UInt8))) else (none)) else (some false)) else (some false)) else (none)) else (some false)) else (some false))) else (none))) = some r := H
        have A9 := Aside0.mk A90
        clear A90
        replace H := Option.bind_eq_some_iff.mp H
        obtain ⟨t125, A100, H⟩ := H
        replace H : (if t124.size + t125.size ≤ 9223372036854775807 then ((wire_Split.f (t124 ++ t125) (⟨#[105, 116]⟩ : ByteArray) 1).bind fun bt126 => (if bt126.2.1 = 0 then (if (bt126.1.length : Int) = 2 then (if 0 < (bt126.1.length : Int) then (if (rd_T55 bt126.1 0).f0 = true then (if ((rd_T55 bt126.1 0).f1) = 7 then (if 1 < (bt126.1.length : Int) then (some (((rd_T55 bt126.1 1).f2).toList == ([97] : List UInt8))) else (none)) else (some false)) else (some false)) else (none)) else (some false)) else (some false))) else (none)) = some r := H
        have A10 := Aside0.mk A100
        clear A100
        by_cases c11 : t124.size + t125.size ≤ 9223372036854775807
        · rw [if_pos c11] at H
          have c11b0 := eq_true c11
          have c11b1 : decide (t124.size + t125.size ≤ 9223372036854775807) = true := decide_eq_true c11
          try have c11b2 : (9223372036854775807 < t124.size + t125.size) = False := eq_false (Nat.not_lt.2 c11)
          replace H := Option.bind_eq_some_iff.mp H
          obtain ⟨⟨t126, t129, t130⟩, A120, H⟩ := H
          replace H : (if t129 = 0 then (if (t126.length : Int) = 2 then (if 0 < (t126.length : Int) then (if (rd_T55 t126 0).f0 = true then (if ((rd_T55 t126 0).f1) = 7 then (if 1 < (t126.length : Int) then (some (((rd_T55 t126 1).f2).toList == ([97] : List UInt8))) else (none)) else (some false)) else (some false)) else (none)) else (some false)) else (some false)) = some r := H
          have A12 := Aside0.mk A120
          clear A120
          by_cases c13 : t129 = 0
          · rw [if_pos c13] at H
            have c13b0 : (t129 == 0) = true := beq_iff_eq.mpr c13
            have c13b1 : (t129 != 0) = false := bne_eq_false_iff_eq.mpr c13
            clear c13
            by_cases c14 : (t126.length : Int) = 2
            · rw [if_pos c14] at H
              have c14b0 : ((t126.length : Int) == 2) = true := beq_iff_eq.mpr c14
              have c14b1 : ((t126.length : Int) != 2) = false := bne_eq_false_iff_eq.mpr c14
              clear c14
              by_cases c15 : 0 < (t126.length : Int)
              · rw [if_pos c15] at H
                have c15b0 : decide (0 < (t126.length : Int)) = true := decide_eq_true c15
                have c15b1 : decide (0 < t126.length) = true := decide_eq_true (by omega)
                clear c15
                obtain ⟨bq16, hbq16⟩ : ∃ b_ : Bool, b_ = ((rd_T55 t126 0).f0) := ⟨_, rfl⟩
                replace H : (if bq16 = true then (if ((rd_T55 t126 0).f1) = 7 then (if 1 < (t126.length : Int) then (some (((rd_T55 t126 1).f2).toList == ([97] : List UInt8))) else (none)) else (some false)) else (some false)) = some r := by rw [← hbq16] at H; exact H
                have Nbq16 := Aside0.mk hbq16
                clear hbq16
                by_cases c17 : bq16 = true
                · subst c17
                  have H1 : (if ((rd_T55 t126 0).f1) = 7 then (if 1 < (t126.length : Int) then (some (((rd_T55 t126 1).f2).toList == ([97] : List UInt8))) else (none)) else (some false)) = some r := by rw [if_pos rfl] at H; exact H
                  clear H
                  have H := H1
                  clear H1
                  by_cases c18 : ((rd_T55 t126 0).f1) = 7
                  · rw [if_pos c18] at H
                    have c18b0 : (((rd_T55 t126 0).f1) == 7) = true := beq_iff_eq.mpr c18
                    have c18b1 : (((rd_T55 t126 0).f1) != 7) = false := bne_eq_false_iff_eq.mpr c18
                    clear c18
                    by_cases c19 : 1 < (t126.length : Int)
                    · rw [if_pos c19] at H
                      have c19b0 : decide (1 < (t126.length : Int)) = true := decide_eq_true c19
                      have c19b1 : decide (1 < t126.length) = true := decide_eq_true (by omega)
                      clear c19
                      obtain rfl := Option.some.inj H
                      go_wp2_with (first | ((with_reducible refine gate_callee (f := 13) rfl ?_); refine goesL_ (some 10) rfl rfl Try.func13 (by kernel_rfl) rfl #[.int .u64 7] rfl (by (try simp only [List.map_toArray, List.map_cons, List.map_nil]); first | done | rfl | (simp only [List.length_drop, List.length_take]; rfl)) ?_; (with_reducible refine (wire_Int.calls 7 t124 _ A9.out).mono ?_); rintro e w20 ⟨rfl, hb⟩; refine ⟨_, rfl, ?_⟩; have n0_ := Aside0.mk (below_step (by repeat (first | (with_reducible first | exact HB.out | apply below_alloc | apply pw_below_drewN | apply below_drew1) | exact HB.out)) hb); clear HB; have HB := n0_; clear n0_; (try clear hb); (try clear hb2); (try clear hk); (try clear hi)) | ((with_reducible refine gate_callee (f := 15) rfl ?_); refine goesL_ (some 11) rfl rfl Try.func15 (by kernel_rfl) rfl #[.string (⟨#[97]⟩ : ByteArray)] rfl (by (try simp only [List.map_toArray, List.map_cons, List.map_nil]); first | done | rfl | (simp only [List.length_drop, List.length_take]; rfl)) ?_; (with_reducible refine (wire_Text.calls (⟨#[97]⟩ : ByteArray) t125 _ A10.out).mono ?_); rintro e w21 ⟨rfl, hb⟩; refine ⟨_, rfl, ?_⟩; have n0_ := Aside0.mk (below_step (by repeat (first | (with_reducible first | exact HB.out | apply below_alloc | apply pw_below_drewN | apply below_drew1) | exact HB.out)) hb); clear HB; have HB := n0_; clear n0_; (try clear hb); (try clear hb2); (try clear hk); (try clear hi)) | ((with_reducible refine gate_callee (f := 19) rfl ?_); refine goesL_ (some 13) rfl rfl Try.func19 (by kernel_rfl) rfl #[.string (t124 ++ t125), .string (⟨#[105, 116]⟩ : ByteArray), .int .i64 1] rfl (by (try simp only [List.map_toArray, List.map_cons, List.map_nil]); first | done | rfl | (simp only [List.length_drop, List.length_take]; rfl)) ?_; (with_reducible refine (wire_Split.calls (t124 ++ t125) (⟨#[105, 116]⟩ : ByteArray) 1 t126 t129 t130 _ A12.out).mono ?_); rintro e w22 ⟨v127, rfl, ho0, hb⟩; refine ⟨_, rfl, ?_⟩; have n0_ := Aside0.mk (Kd.R_lower ho0 (below_size (by repeat (first | (with_reducible first | exact HB.out | apply below_alloc | apply pw_below_drewN | apply below_drew1) | exact HB.out)))); have n1_ := Aside0.mk (below_step (by repeat (first | (with_reducible first | exact HB.out | apply below_alloc | apply pw_below_drewN | apply below_drew1) | exact HB.out)) hb); clear HB; have HO128 := n0_; have HB := n1_; clear n0_ n1_; (try clear hb); (try clear hb2); (try clear hk); (try clear hi); (try clear ho0)) | ((with_reducible refine gate_dst (N := 2) rfl ?_); (try (refine gate_guard (by rfl) ?_; dsimp only)); refine box_event ?hg (N := 2) ?hd (cs := #[.int .i64 0, .int .i64 0]) (t := 31) ?hr ?_; (case hd => rfl); (case hg => rfl); (case hr => first | (go_simp; done) | (go_simp; rfl)); intro gb131 hg w23 hbox hb; have n0_ := Aside0.mk (Kd.R_below (by (with_reducible repeat (first | apply Kd.R_alloc | apply Kd.R_drewN | apply Kd.R_drew)); exact HO128.out) hb); have n1_ := Aside0.mk (below_step (by repeat (first | (with_reducible first | exact HB.out | apply below_alloc | apply pw_below_drewN | apply below_drew1) | exact HB.out)) hb); have n2_ := Aside0.mk (hbox); have n3_ := Aside0.mk ((by rw [hg]; exact (below_size (by repeat (first | (with_reducible first | exact HB.out | apply below_alloc | apply pw_below_drewN | apply below_drew1) | exact HB.out))) : w.heap.size ≤ gb131)); have n4_ := Aside0.mk ((by rw [hg]; exact (below_size (by repeat (first | (with_reducible first | exact HB.out | apply below_alloc | apply pw_below_drewN | apply below_drew1) | exact HB.out))) : w.heap.size ≤ gb131)); clear HO128; clear HB; have HO128 := n0_; have HB := n1_; have BK131 := n2_; have GW131 := n3_; have GE131 := n4_; clear n0_ n1_ n2_ n3_ n4_; clear hb hbox hg; have hcz24_0 : w23.cell? ⟨gb131, 0, none⟩ = some (.int .i64 0) := (blk_cell BK131.out 0).trans rfl; have hcz24_1 : w23.cell? ⟨gb131, 1, none⟩ = some (.int .i64 0) := (blk_cell BK131.out 1).trans rfl; have hfz24_0 := blk_frozen BK131.out 0; have hfz24_1 := blk_frozen BK131.out 1; obtain ⟨Ao25, co25, eo25⟩ := Kd.R_slice HO128.out; subst eo25; have p132 : 0 ≤ (0 : Int) := (by omega); have q132 : 0 < (t126.length : Int) := of_decide_eq_true (by first | (with_reducible assumption) | assumption); obtain ⟨ad132, e132, hx132_0, hx132_1, hx132_2⟩ := at_T55 (Kd.R_reads' HO128.out).2.2 0 p132 q132; (try rw [← Nbq16.out] at hx132_0); cases e132; have qi132 : (0 < t126.length) = True := eq_true (by omega); (try rw [show ((0 : Int)).toNat = 0 from rfl] at hx132_0); (try rw [show 0 * 3 = 0 from rfl] at hx132_0); (try rw [Addr.add_zero'] at hx132_0); (try rw [show ((0 : Int)).toNat = 0 from rfl] at hx132_1); (try rw [show 0 * 3 = 0 from rfl] at hx132_1); (try rw [Addr.add_zero'] at hx132_1); (try rw [show ((0 : Int)).toNat = 0 from rfl] at hx132_2); (try rw [show 0 * 3 = 0 from rfl] at hx132_2); (try rw [Addr.add_zero'] at hx132_2); have hn132_0 : ad132.block ≠ gb131 := Kd.own_blk (Kd.R_ne HO128.out BK131.out (by decide)); have hn132_1 : ad132.block ≠ gb131 := Kd.own_blk (Kd.R_ne HO128.out BK131.out (by decide)); replace hx132_0 := (cell_far (p := ⟨gb131, 0, none⟩) (by first | (rw [add_block]; exact hn132_0) | (show (Addr.add _ _).block ≠ _; rw [add_block]; exact hn132_0) | exact hn132_0) (.int .i64 t129)).trans hx132_0; replace hx132_1 := (cell_far (p := ⟨gb131, 0, none⟩) (by first | (rw [add_block]; exact hn132_0) | (show (Addr.add _ _).block ≠ _; rw [add_block]; exact hn132_0) | exact hn132_0) (.int .i64 t129)).trans hx132_1; replace hx132_2 := (cell_far (p := ⟨gb131, 0, none⟩) (by first | (rw [add_block]; exact hn132_0) | (show (Addr.add _ _).block ≠ _; rw [add_block]; exact hn132_0) | exact hn132_0) (.int .i64 t129)).trans hx132_2; replace hx132_0 := (cell_far (p := ⟨gb131, 1, none⟩) (by first | (rw [add_block]; exact hn132_1) | (show (Addr.add _ _).block ≠ _; rw [add_block]; exact hn132_1) | exact hn132_1) (.int .i64 t130)).trans hx132_0; replace hx132_1 := (cell_far (p := ⟨gb131, 1, none⟩) (by first | (rw [add_block]; exact hn132_1) | (show (Addr.add _ _).block ≠ _; rw [add_block]; exact hn132_1) | exact hn132_1) (.int .i64 t130)).trans hx132_1; replace hx132_2 := (cell_far (p := ⟨gb131, 1, none⟩) (by first | (rw [add_block]; exact hn132_1) | (show (Addr.add _ _).block ≠ _; rw [add_block]; exact hn132_1) | exact hn132_1) (.int .i64 t130)).trans hx132_2; clear hn132_0; clear hn132_1; replace p132 := eq_true p132; replace q132 := eq_true q132; have p133 : 0 ≤ (0 : Int) := (by omega); have q133 : 0 < (t126.length : Int) := of_decide_eq_true (by first | (with_reducible assumption) | assumption); obtain ⟨ad133, e133, hx133_0, hx133_1, hx133_2⟩ := at_T55 (Kd.R_reads' HO128.out).2.2 0 p133 q133; (try rw [← Nbq16.out] at hx133_0); obtain rfl : ad132 = ad133 := (by injection e133); have qi133 : (0 < t126.length) = True := eq_true (by omega); (try rw [show ((0 : Int)).toNat = 0 from rfl] at hx133_0); (try rw [show 0 * 3 = 0 from rfl] at hx133_0); (try rw [Addr.add_zero'] at hx133_0); (try rw [show ((0 : Int)).toNat = 0 from rfl] at hx133_1); (try rw [show 0 * 3 = 0 from rfl] at hx133_1); (try rw [Addr.add_zero'] at hx133_1); (try rw [show ((0 : Int)).toNat = 0 from rfl] at hx133_2); (try rw [show 0 * 3 = 0 from rfl] at hx133_2); (try rw [Addr.add_zero'] at hx133_2); have hn133_0 : ad132.block ≠ gb131 := Kd.own_blk (Kd.R_ne HO128.out BK131.out (by decide)); have hn133_1 : ad132.block ≠ gb131 := Kd.own_blk (Kd.R_ne HO128.out BK131.out (by decide)); replace hx133_0 := (cell_far (p := ⟨gb131, 0, none⟩) (by first | (rw [add_block]; exact hn133_0) | (show (Addr.add _ _).block ≠ _; rw [add_block]; exact hn133_0) | exact hn133_0) (.int .i64 t129)).trans hx133_0; replace hx133_1 := (cell_far (p := ⟨gb131, 0, none⟩) (by first | (rw [add_block]; exact hn133_0) | (show (Addr.add _ _).block ≠ _; rw [add_block]; exact hn133_0) | exact hn133_0) (.int .i64 t129)).trans hx133_1; replace hx133_2 := (cell_far (p := ⟨gb131, 0, none⟩) (by first | (rw [add_block]; exact hn133_0) | (show (Addr.add _ _).block ≠ _; rw [add_block]; exact hn133_0) | exact hn133_0) (.int .i64 t129)).trans hx133_2; replace hx133_0 := (cell_far (p := ⟨gb131, 1, none⟩) (by first | (rw [add_block]; exact hn133_1) | (show (Addr.add _ _).block ≠ _; rw [add_block]; exact hn133_1) | exact hn133_1) (.int .i64 t130)).trans hx133_0; replace hx133_1 := (cell_far (p := ⟨gb131, 1, none⟩) (by first | (rw [add_block]; exact hn133_1) | (show (Addr.add _ _).block ≠ _; rw [add_block]; exact hn133_1) | exact hn133_1) (.int .i64 t130)).trans hx133_1; replace hx133_2 := (cell_far (p := ⟨gb131, 1, none⟩) (by first | (rw [add_block]; exact hn133_1) | (show (Addr.add _ _).block ≠ _; rw [add_block]; exact hn133_1) | exact hn133_1) (.int .i64 t130)).trans hx133_2; clear hn133_0; clear hn133_1; replace p133 := eq_true p133; replace q133 := eq_true q133; have p134 : 0 ≤ (1 : Int) := (by omega); have q134 : 1 < (t126.length : Int) := of_decide_eq_true (by first | (with_reducible assumption) | assumption); obtain ⟨ad134, e134, hx134_0, hx134_1, hx134_2⟩ := at_T55 (Kd.R_reads' HO128.out).2.2 1 p134 q134; (try rw [← Nbq16.out] at hx134_0); obtain rfl : ad132 = ad134 := (by injection e134); (try simp only [show (1 : Int).toNat = 1 from rfl, Nat.reduceMul, Nat.reduceEqDiff, Go.Addr.add, ↓reduceIte] at hx134_0); (try simp only [show (1 : Int).toNat = 1 from rfl, Nat.reduceMul, Nat.reduceEqDiff, Go.Addr.add, ↓reduceIte] at hx134_1); (try simp only [show (1 : Int).toNat = 1 from rfl, Nat.reduceMul, Nat.reduceEqDiff, Go.Addr.add, ↓reduceIte] at hx134_2); have qi134 : (1 < t126.length) = True := eq_true (by omega); (try rw [show ((1 : Int)).toNat = 1 from rfl] at hx134_0); (try rw [show 1 * 3 = 3 from rfl] at hx134_0); (try rw [show ((1 : Int)).toNat = 1 from rfl] at hx134_1); (try rw [show 1 * 3 = 3 from rfl] at hx134_1); (try rw [show ((1 : Int)).toNat = 1 from rfl] at hx134_2); (try rw [show 1 * 3 = 3 from rfl] at hx134_2); have hn134_0 : ad132.block ≠ gb131 := Kd.own_blk (Kd.R_ne HO128.out BK131.out (by decide)); have hn134_1 : ad132.block ≠ gb131 := Kd.own_blk (Kd.R_ne HO128.out BK131.out (by decide)); replace hx134_0 := (cell_far (p := ⟨gb131, 0, none⟩) (by first | (rw [add_block]; exact hn134_0) | (show (Addr.add _ _).block ≠ _; rw [add_block]; exact hn134_0) | exact hn134_0) (.int .i64 t129)).trans hx134_0; replace hx134_1 := (cell_far (p := ⟨gb131, 0, none⟩) (by first | (rw [add_block]; exact hn134_0) | (show (Addr.add _ _).block ≠ _; rw [add_block]; exact hn134_0) | exact hn134_0) (.int .i64 t129)).trans hx134_1; replace hx134_2 := (cell_far (p := ⟨gb131, 0, none⟩) (by first | (rw [add_block]; exact hn134_0) | (show (Addr.add _ _).block ≠ _; rw [add_block]; exact hn134_0) | exact hn134_0) (.int .i64 t129)).trans hx134_2; replace hx134_0 := (cell_far (p := ⟨gb131, 1, none⟩) (by first | (rw [add_block]; exact hn134_1) | (show (Addr.add _ _).block ≠ _; rw [add_block]; exact hn134_1) | exact hn134_1) (.int .i64 t130)).trans hx134_0; replace hx134_1 := (cell_far (p := ⟨gb131, 1, none⟩) (by first | (rw [add_block]; exact hn134_1) | (show (Addr.add _ _).block ≠ _; rw [add_block]; exact hn134_1) | exact hn134_1) (.int .i64 t130)).trans hx134_1; replace hx134_2 := (cell_far (p := ⟨gb131, 1, none⟩) (by first | (rw [add_block]; exact hn134_1) | (show (Addr.add _ _).block ≠ _; rw [add_block]; exact hn134_1) | exact hn134_1) (.int .i64 t130)).trans hx134_2; clear hn134_0; clear hn134_1; replace p134 := eq_true p134; replace q134 := eq_true q134))
                      go_ret
                      exact ⟨by first | rfl | (simp [errW_none, errW_some] <;> rfl) | (simp [*, errW_none, errW_some] <;> rfl), by repeat (first | (with_reducible first | exact HB.out | apply below_alloc | apply pw_below_drewN | apply below_drew1 | refine below_set ?_ GE131.out) | exact HB.out)⟩
                    · rw [if_neg c19] at H
                      exact absurd H (by simp)
                  · rw [if_neg c18] at H
                    have c18b0 : (((rd_T55 t126 0).f1) == 7) = false := beq_eq_false_iff_ne.mpr c18
                    have c18b1 : (((rd_T55 t126 0).f1) != 7) = true := bne_iff_ne.mpr c18
                    obtain rfl := Option.some.inj H
                    go_wp2_with (first | ((with_reducible refine gate_callee (f := 13) rfl ?_); refine goesL_ (some 10) rfl rfl Try.func13 (by kernel_rfl) rfl #[.int .u64 7] rfl (by (try simp only [List.map_toArray, List.map_cons, List.map_nil]); first | done | rfl | (simp only [List.length_drop, List.length_take]; rfl)) ?_; (with_reducible refine (wire_Int.calls 7 t124 _ A9.out).mono ?_); rintro e w26 ⟨rfl, hb⟩; refine ⟨_, rfl, ?_⟩; have n0_ := Aside0.mk (below_step (by repeat (first | (with_reducible first | exact HB.out | apply below_alloc | apply pw_below_drewN | apply below_drew1) | exact HB.out)) hb); clear HB; have HB := n0_; clear n0_; (try clear hb); (try clear hb2); (try clear hk); (try clear hi)) | ((with_reducible refine gate_callee (f := 15) rfl ?_); refine goesL_ (some 11) rfl rfl Try.func15 (by kernel_rfl) rfl #[.string (⟨#[97]⟩ : ByteArray)] rfl (by (try simp only [List.map_toArray, List.map_cons, List.map_nil]); first | done | rfl | (simp only [List.length_drop, List.length_take]; rfl)) ?_; (with_reducible refine (wire_Text.calls (⟨#[97]⟩ : ByteArray) t125 _ A10.out).mono ?_); rintro e w27 ⟨rfl, hb⟩; refine ⟨_, rfl, ?_⟩; have n0_ := Aside0.mk (below_step (by repeat (first | (with_reducible first | exact HB.out | apply below_alloc | apply pw_below_drewN | apply below_drew1) | exact HB.out)) hb); clear HB; have HB := n0_; clear n0_; (try clear hb); (try clear hb2); (try clear hk); (try clear hi)) | ((with_reducible refine gate_callee (f := 19) rfl ?_); refine goesL_ (some 13) rfl rfl Try.func19 (by kernel_rfl) rfl #[.string (t124 ++ t125), .string (⟨#[105, 116]⟩ : ByteArray), .int .i64 1] rfl (by (try simp only [List.map_toArray, List.map_cons, List.map_nil]); first | done | rfl | (simp only [List.length_drop, List.length_take]; rfl)) ?_; (with_reducible refine (wire_Split.calls (t124 ++ t125) (⟨#[105, 116]⟩ : ByteArray) 1 t126 t129 t130 _ A12.out).mono ?_); rintro e w28 ⟨v127, rfl, ho0, hb⟩; refine ⟨_, rfl, ?_⟩; have n0_ := Aside0.mk (Kd.R_lower ho0 (below_size (by repeat (first | (with_reducible first | exact HB.out | apply below_alloc | apply pw_below_drewN | apply below_drew1) | exact HB.out)))); have n1_ := Aside0.mk (below_step (by repeat (first | (with_reducible first | exact HB.out | apply below_alloc | apply pw_below_drewN | apply below_drew1) | exact HB.out)) hb); clear HB; have HO128 := n0_; have HB := n1_; clear n0_ n1_; (try clear hb); (try clear hb2); (try clear hk); (try clear hi); (try clear ho0)) | ((with_reducible refine gate_dst (N := 2) rfl ?_); (try (refine gate_guard (by rfl) ?_; dsimp only)); refine box_event ?hg (N := 2) ?hd (cs := #[.int .i64 0, .int .i64 0]) (t := 31) ?hr ?_; (case hd => rfl); (case hg => rfl); (case hr => first | (go_simp; done) | (go_simp; rfl)); intro gb131 hg w29 hbox hb; have n0_ := Aside0.mk (Kd.R_below (by (with_reducible repeat (first | apply Kd.R_alloc | apply Kd.R_drewN | apply Kd.R_drew)); exact HO128.out) hb); have n1_ := Aside0.mk (below_step (by repeat (first | (with_reducible first | exact HB.out | apply below_alloc | apply pw_below_drewN | apply below_drew1) | exact HB.out)) hb); have n2_ := Aside0.mk (hbox); have n3_ := Aside0.mk ((by rw [hg]; exact (below_size (by repeat (first | (with_reducible first | exact HB.out | apply below_alloc | apply pw_below_drewN | apply below_drew1) | exact HB.out))) : w.heap.size ≤ gb131)); have n4_ := Aside0.mk ((by rw [hg]; exact (below_size (by repeat (first | (with_reducible first | exact HB.out | apply below_alloc | apply pw_below_drewN | apply below_drew1) | exact HB.out))) : w.heap.size ≤ gb131)); clear HO128; clear HB; have HO128 := n0_; have HB := n1_; have BK131 := n2_; have GW131 := n3_; have GE131 := n4_; clear n0_ n1_ n2_ n3_ n4_; clear hb hbox hg; have hcz30_0 : w29.cell? ⟨gb131, 0, none⟩ = some (.int .i64 0) := (blk_cell BK131.out 0).trans rfl; have hcz30_1 : w29.cell? ⟨gb131, 1, none⟩ = some (.int .i64 0) := (blk_cell BK131.out 1).trans rfl; have hfz30_0 := blk_frozen BK131.out 0; have hfz30_1 := blk_frozen BK131.out 1; obtain ⟨Ao31, co31, eo31⟩ := Kd.R_slice HO128.out; subst eo31; have p132 : 0 ≤ (0 : Int) := (by omega); have q132 : 0 < (t126.length : Int) := of_decide_eq_true (by first | (with_reducible assumption) | assumption); obtain ⟨ad132, e132, hx132_0, hx132_1, hx132_2⟩ := at_T55 (Kd.R_reads' HO128.out).2.2 0 p132 q132; (try rw [← Nbq16.out] at hx132_0); cases e132; have qi132 : (0 < t126.length) = True := eq_true (by omega); (try rw [show ((0 : Int)).toNat = 0 from rfl] at hx132_0); (try rw [show 0 * 3 = 0 from rfl] at hx132_0); (try rw [Addr.add_zero'] at hx132_0); (try rw [show ((0 : Int)).toNat = 0 from rfl] at hx132_1); (try rw [show 0 * 3 = 0 from rfl] at hx132_1); (try rw [Addr.add_zero'] at hx132_1); (try rw [show ((0 : Int)).toNat = 0 from rfl] at hx132_2); (try rw [show 0 * 3 = 0 from rfl] at hx132_2); (try rw [Addr.add_zero'] at hx132_2); have hn132_0 : ad132.block ≠ gb131 := Kd.own_blk (Kd.R_ne HO128.out BK131.out (by decide)); have hn132_1 : ad132.block ≠ gb131 := Kd.own_blk (Kd.R_ne HO128.out BK131.out (by decide)); replace hx132_0 := (cell_far (p := ⟨gb131, 0, none⟩) (by first | (rw [add_block]; exact hn132_0) | (show (Addr.add _ _).block ≠ _; rw [add_block]; exact hn132_0) | exact hn132_0) (.int .i64 t129)).trans hx132_0; replace hx132_1 := (cell_far (p := ⟨gb131, 0, none⟩) (by first | (rw [add_block]; exact hn132_0) | (show (Addr.add _ _).block ≠ _; rw [add_block]; exact hn132_0) | exact hn132_0) (.int .i64 t129)).trans hx132_1; replace hx132_2 := (cell_far (p := ⟨gb131, 0, none⟩) (by first | (rw [add_block]; exact hn132_0) | (show (Addr.add _ _).block ≠ _; rw [add_block]; exact hn132_0) | exact hn132_0) (.int .i64 t129)).trans hx132_2; replace hx132_0 := (cell_far (p := ⟨gb131, 1, none⟩) (by first | (rw [add_block]; exact hn132_1) | (show (Addr.add _ _).block ≠ _; rw [add_block]; exact hn132_1) | exact hn132_1) (.int .i64 t130)).trans hx132_0; replace hx132_1 := (cell_far (p := ⟨gb131, 1, none⟩) (by first | (rw [add_block]; exact hn132_1) | (show (Addr.add _ _).block ≠ _; rw [add_block]; exact hn132_1) | exact hn132_1) (.int .i64 t130)).trans hx132_1; replace hx132_2 := (cell_far (p := ⟨gb131, 1, none⟩) (by first | (rw [add_block]; exact hn132_1) | (show (Addr.add _ _).block ≠ _; rw [add_block]; exact hn132_1) | exact hn132_1) (.int .i64 t130)).trans hx132_2; clear hn132_0; clear hn132_1; replace p132 := eq_true p132; replace q132 := eq_true q132; have p133 : 0 ≤ (0 : Int) := (by omega); have q133 : 0 < (t126.length : Int) := of_decide_eq_true (by first | (with_reducible assumption) | assumption); obtain ⟨ad133, e133, hx133_0, hx133_1, hx133_2⟩ := at_T55 (Kd.R_reads' HO128.out).2.2 0 p133 q133; (try rw [← Nbq16.out] at hx133_0); obtain rfl : ad132 = ad133 := (by injection e133); have qi133 : (0 < t126.length) = True := eq_true (by omega); (try rw [show ((0 : Int)).toNat = 0 from rfl] at hx133_0); (try rw [show 0 * 3 = 0 from rfl] at hx133_0); (try rw [Addr.add_zero'] at hx133_0); (try rw [show ((0 : Int)).toNat = 0 from rfl] at hx133_1); (try rw [show 0 * 3 = 0 from rfl] at hx133_1); (try rw [Addr.add_zero'] at hx133_1); (try rw [show ((0 : Int)).toNat = 0 from rfl] at hx133_2); (try rw [show 0 * 3 = 0 from rfl] at hx133_2); (try rw [Addr.add_zero'] at hx133_2); have hn133_0 : ad132.block ≠ gb131 := Kd.own_blk (Kd.R_ne HO128.out BK131.out (by decide)); have hn133_1 : ad132.block ≠ gb131 := Kd.own_blk (Kd.R_ne HO128.out BK131.out (by decide)); replace hx133_0 := (cell_far (p := ⟨gb131, 0, none⟩) (by first | (rw [add_block]; exact hn133_0) | (show (Addr.add _ _).block ≠ _; rw [add_block]; exact hn133_0) | exact hn133_0) (.int .i64 t129)).trans hx133_0; replace hx133_1 := (cell_far (p := ⟨gb131, 0, none⟩) (by first | (rw [add_block]; exact hn133_0) | (show (Addr.add _ _).block ≠ _; rw [add_block]; exact hn133_0) | exact hn133_0) (.int .i64 t129)).trans hx133_1; replace hx133_2 := (cell_far (p := ⟨gb131, 0, none⟩) (by first | (rw [add_block]; exact hn133_0) | (show (Addr.add _ _).block ≠ _; rw [add_block]; exact hn133_0) | exact hn133_0) (.int .i64 t129)).trans hx133_2; replace hx133_0 := (cell_far (p := ⟨gb131, 1, none⟩) (by first | (rw [add_block]; exact hn133_1) | (show (Addr.add _ _).block ≠ _; rw [add_block]; exact hn133_1) | exact hn133_1) (.int .i64 t130)).trans hx133_0; replace hx133_1 := (cell_far (p := ⟨gb131, 1, none⟩) (by first | (rw [add_block]; exact hn133_1) | (show (Addr.add _ _).block ≠ _; rw [add_block]; exact hn133_1) | exact hn133_1) (.int .i64 t130)).trans hx133_1; replace hx133_2 := (cell_far (p := ⟨gb131, 1, none⟩) (by first | (rw [add_block]; exact hn133_1) | (show (Addr.add _ _).block ≠ _; rw [add_block]; exact hn133_1) | exact hn133_1) (.int .i64 t130)).trans hx133_2; clear hn133_0; clear hn133_1; replace p133 := eq_true p133; replace q133 := eq_true q133))
                    go_ret
                    exact ⟨by first | rfl | (simp [errW_none, errW_some] <;> rfl) | (simp [*, errW_none, errW_some] <;> rfl), by repeat (first | (with_reducible first | exact HB.out | apply below_alloc | apply pw_below_drewN | apply below_drew1 | refine below_set ?_ GE131.out) | exact HB.out)⟩
                · replace c17 := Bool.eq_false_iff.mpr c17
                  subst c17
                  have H1 : (some false) = some r := by rw [if_neg (show ¬ (false = true) by decide)] at H; exact H
                  clear H
                  have H := H1
                  clear H1
                  obtain rfl := Option.some.inj H
                  go_wp2_with (first | ((with_reducible refine gate_callee (f := 13) rfl ?_); refine goesL_ (some 10) rfl rfl Try.func13 (by kernel_rfl) rfl #[.int .u64 7] rfl (by (try simp only [List.map_toArray, List.map_cons, List.map_nil]); first | done | rfl | (simp only [List.length_drop, List.length_take]; rfl)) ?_; (with_reducible refine (wire_Int.calls 7 t124 _ A9.out).mono ?_); rintro e w32 ⟨rfl, hb⟩; refine ⟨_, rfl, ?_⟩; have n0_ := Aside0.mk (below_step (by repeat (first | (with_reducible first | exact HB.out | apply below_alloc | apply pw_below_drewN | apply below_drew1) | exact HB.out)) hb); clear HB; have HB := n0_; clear n0_; (try clear hb); (try clear hb2); (try clear hk); (try clear hi)) | ((with_reducible refine gate_callee (f := 15) rfl ?_); refine goesL_ (some 11) rfl rfl Try.func15 (by kernel_rfl) rfl #[.string (⟨#[97]⟩ : ByteArray)] rfl (by (try simp only [List.map_toArray, List.map_cons, List.map_nil]); first | done | rfl | (simp only [List.length_drop, List.length_take]; rfl)) ?_; (with_reducible refine (wire_Text.calls (⟨#[97]⟩ : ByteArray) t125 _ A10.out).mono ?_); rintro e w33 ⟨rfl, hb⟩; refine ⟨_, rfl, ?_⟩; have n0_ := Aside0.mk (below_step (by repeat (first | (with_reducible first | exact HB.out | apply below_alloc | apply pw_below_drewN | apply below_drew1) | exact HB.out)) hb); clear HB; have HB := n0_; clear n0_; (try clear hb); (try clear hb2); (try clear hk); (try clear hi)) | ((with_reducible refine gate_callee (f := 19) rfl ?_); refine goesL_ (some 13) rfl rfl Try.func19 (by kernel_rfl) rfl #[.string (t124 ++ t125), .string (⟨#[105, 116]⟩ : ByteArray), .int .i64 1] rfl (by (try simp only [List.map_toArray, List.map_cons, List.map_nil]); first | done | rfl | (simp only [List.length_drop, List.length_take]; rfl)) ?_; (with_reducible refine (wire_Split.calls (t124 ++ t125) (⟨#[105, 116]⟩ : ByteArray) 1 t126 t129 t130 _ A12.out).mono ?_); rintro e w34 ⟨v127, rfl, ho0, hb⟩; refine ⟨_, rfl, ?_⟩; have n0_ := Aside0.mk (Kd.R_lower ho0 (below_size (by repeat (first | (with_reducible first | exact HB.out | apply below_alloc | apply pw_below_drewN | apply below_drew1) | exact HB.out)))); have n1_ := Aside0.mk (below_step (by repeat (first | (with_reducible first | exact HB.out | apply below_alloc | apply pw_below_drewN | apply below_drew1) | exact HB.out)) hb); clear HB; have HO128 := n0_; have HB := n1_; clear n0_ n1_; (try clear hb); (try clear hb2); (try clear hk); (try clear hi); (try clear ho0)) | ((with_reducible refine gate_dst (N := 2) rfl ?_); (try (refine gate_guard (by rfl) ?_; dsimp only)); refine box_event ?hg (N := 2) ?hd (cs := #[.int .i64 0, .int .i64 0]) (t := 31) ?hr ?_; (case hd => rfl); (case hg => rfl); (case hr => first | (go_simp; done) | (go_simp; rfl)); intro gb131 hg w35 hbox hb; have n0_ := Aside0.mk (Kd.R_below (by (with_reducible repeat (first | apply Kd.R_alloc | apply Kd.R_drewN | apply Kd.R_drew)); exact HO128.out) hb); have n1_ := Aside0.mk (below_step (by repeat (first | (with_reducible first | exact HB.out | apply below_alloc | apply pw_below_drewN | apply below_drew1) | exact HB.out)) hb); have n2_ := Aside0.mk (hbox); have n3_ := Aside0.mk ((by rw [hg]; exact (below_size (by repeat (first | (with_reducible first | exact HB.out | apply below_alloc | apply pw_below_drewN | apply below_drew1) | exact HB.out))) : w.heap.size ≤ gb131)); have n4_ := Aside0.mk ((by rw [hg]; exact (below_size (by repeat (first | (with_reducible first | exact HB.out | apply below_alloc | apply pw_below_drewN | apply below_drew1) | exact HB.out))) : w.heap.size ≤ gb131)); clear HO128; clear HB; have HO128 := n0_; have HB := n1_; have BK131 := n2_; have GW131 := n3_; have GE131 := n4_; clear n0_ n1_ n2_ n3_ n4_; clear hb hbox hg; have hcz36_0 : w35.cell? ⟨gb131, 0, none⟩ = some (.int .i64 0) := (blk_cell BK131.out 0).trans rfl; have hcz36_1 : w35.cell? ⟨gb131, 1, none⟩ = some (.int .i64 0) := (blk_cell BK131.out 1).trans rfl; have hfz36_0 := blk_frozen BK131.out 0; have hfz36_1 := blk_frozen BK131.out 1; obtain ⟨Ao37, co37, eo37⟩ := Kd.R_slice HO128.out; subst eo37; have p132 : 0 ≤ (0 : Int) := (by omega); have q132 : 0 < (t126.length : Int) := of_decide_eq_true (by first | (with_reducible assumption) | assumption); obtain ⟨ad132, e132, hx132_0, hx132_1, hx132_2⟩ := at_T55 (Kd.R_reads' HO128.out).2.2 0 p132 q132; (try rw [← Nbq16.out] at hx132_0); cases e132; have qi132 : (0 < t126.length) = True := eq_true (by omega); (try rw [show ((0 : Int)).toNat = 0 from rfl] at hx132_0); (try rw [show 0 * 3 = 0 from rfl] at hx132_0); (try rw [Addr.add_zero'] at hx132_0); (try rw [show ((0 : Int)).toNat = 0 from rfl] at hx132_1); (try rw [show 0 * 3 = 0 from rfl] at hx132_1); (try rw [Addr.add_zero'] at hx132_1); (try rw [show ((0 : Int)).toNat = 0 from rfl] at hx132_2); (try rw [show 0 * 3 = 0 from rfl] at hx132_2); (try rw [Addr.add_zero'] at hx132_2); have hn132_0 : ad132.block ≠ gb131 := Kd.own_blk (Kd.R_ne HO128.out BK131.out (by decide)); have hn132_1 : ad132.block ≠ gb131 := Kd.own_blk (Kd.R_ne HO128.out BK131.out (by decide)); replace hx132_0 := (cell_far (p := ⟨gb131, 0, none⟩) (by first | (rw [add_block]; exact hn132_0) | (show (Addr.add _ _).block ≠ _; rw [add_block]; exact hn132_0) | exact hn132_0) (.int .i64 t129)).trans hx132_0; replace hx132_1 := (cell_far (p := ⟨gb131, 0, none⟩) (by first | (rw [add_block]; exact hn132_0) | (show (Addr.add _ _).block ≠ _; rw [add_block]; exact hn132_0) | exact hn132_0) (.int .i64 t129)).trans hx132_1; replace hx132_2 := (cell_far (p := ⟨gb131, 0, none⟩) (by first | (rw [add_block]; exact hn132_0) | (show (Addr.add _ _).block ≠ _; rw [add_block]; exact hn132_0) | exact hn132_0) (.int .i64 t129)).trans hx132_2; replace hx132_0 := (cell_far (p := ⟨gb131, 1, none⟩) (by first | (rw [add_block]; exact hn132_1) | (show (Addr.add _ _).block ≠ _; rw [add_block]; exact hn132_1) | exact hn132_1) (.int .i64 t130)).trans hx132_0; replace hx132_1 := (cell_far (p := ⟨gb131, 1, none⟩) (by first | (rw [add_block]; exact hn132_1) | (show (Addr.add _ _).block ≠ _; rw [add_block]; exact hn132_1) | exact hn132_1) (.int .i64 t130)).trans hx132_1; replace hx132_2 := (cell_far (p := ⟨gb131, 1, none⟩) (by first | (rw [add_block]; exact hn132_1) | (show (Addr.add _ _).block ≠ _; rw [add_block]; exact hn132_1) | exact hn132_1) (.int .i64 t130)).trans hx132_2; clear hn132_0; clear hn132_1; replace p132 := eq_true p132; replace q132 := eq_true q132))
                  go_ret
                  exact ⟨by first | rfl | (simp [errW_none, errW_some] <;> rfl) | (simp [*, errW_none, errW_some] <;> rfl), by repeat (first | (with_reducible first | exact HB.out | apply below_alloc | apply pw_below_drewN | apply below_drew1 | refine below_set ?_ GE131.out) | exact HB.out)⟩
              · rw [if_neg c15] at H
                exact absurd H (by simp)
            · rw [if_neg c14] at H
              have c14b0 : ((t126.length : Int) == 2) = false := beq_eq_false_iff_ne.mpr c14
              have c14b1 : ((t126.length : Int) != 2) = true := bne_iff_ne.mpr c14
              obtain rfl := Option.some.inj H
              go_wp2_with (first | ((with_reducible refine gate_callee (f := 13) rfl ?_); refine goesL_ (some 10) rfl rfl Try.func13 (by kernel_rfl) rfl #[.int .u64 7] rfl (by (try simp only [List.map_toArray, List.map_cons, List.map_nil]); first | done | rfl | (simp only [List.length_drop, List.length_take]; rfl)) ?_; (with_reducible refine (wire_Int.calls 7 t124 _ A9.out).mono ?_); rintro e w38 ⟨rfl, hb⟩; refine ⟨_, rfl, ?_⟩; have n0_ := Aside0.mk (below_step (by repeat (first | (with_reducible first | exact HB.out | apply below_alloc | apply pw_below_drewN | apply below_drew1) | exact HB.out)) hb); clear HB; have HB := n0_; clear n0_; (try clear hb); (try clear hb2); (try clear hk); (try clear hi)) | ((with_reducible refine gate_callee (f := 15) rfl ?_); refine goesL_ (some 11) rfl rfl Try.func15 (by kernel_rfl) rfl #[.string (⟨#[97]⟩ : ByteArray)] rfl (by (try simp only [List.map_toArray, List.map_cons, List.map_nil]); first | done | rfl | (simp only [List.length_drop, List.length_take]; rfl)) ?_; (with_reducible refine (wire_Text.calls (⟨#[97]⟩ : ByteArray) t125 _ A10.out).mono ?_); rintro e w39 ⟨rfl, hb⟩; refine ⟨_, rfl, ?_⟩; have n0_ := Aside0.mk (below_step (by repeat (first | (with_reducible first | exact HB.out | apply below_alloc | apply pw_below_drewN | apply below_drew1) | exact HB.out)) hb); clear HB; have HB := n0_; clear n0_; (try clear hb); (try clear hb2); (try clear hk); (try clear hi)) | ((with_reducible refine gate_callee (f := 19) rfl ?_); refine goesL_ (some 13) rfl rfl Try.func19 (by kernel_rfl) rfl #[.string (t124 ++ t125), .string (⟨#[105, 116]⟩ : ByteArray), .int .i64 1] rfl (by (try simp only [List.map_toArray, List.map_cons, List.map_nil]); first | done | rfl | (simp only [List.length_drop, List.length_take]; rfl)) ?_; (with_reducible refine (wire_Split.calls (t124 ++ t125) (⟨#[105, 116]⟩ : ByteArray) 1 t126 t129 t130 _ A12.out).mono ?_); rintro e w40 ⟨v127, rfl, ho0, hb⟩; refine ⟨_, rfl, ?_⟩; have n0_ := Aside0.mk (Kd.R_lower ho0 (below_size (by repeat (first | (with_reducible first | exact HB.out | apply below_alloc | apply pw_below_drewN | apply below_drew1) | exact HB.out)))); have n1_ := Aside0.mk (below_step (by repeat (first | (with_reducible first | exact HB.out | apply below_alloc | apply pw_below_drewN | apply below_drew1) | exact HB.out)) hb); clear HB; have HO128 := n0_; have HB := n1_; clear n0_ n1_; (try clear hb); (try clear hb2); (try clear hk); (try clear hi); (try clear ho0)) | ((with_reducible refine gate_dst (N := 2) rfl ?_); (try (refine gate_guard (by rfl) ?_; dsimp only)); refine box_event ?hg (N := 2) ?hd (cs := #[.int .i64 0, .int .i64 0]) (t := 31) ?hr ?_; (case hd => rfl); (case hg => rfl); (case hr => first | (go_simp; done) | (go_simp; rfl)); intro gb131 hg w41 hbox hb; have n0_ := Aside0.mk (Kd.R_below (by (with_reducible repeat (first | apply Kd.R_alloc | apply Kd.R_drewN | apply Kd.R_drew)); exact HO128.out) hb); have n1_ := Aside0.mk (below_step (by repeat (first | (with_reducible first | exact HB.out | apply below_alloc | apply pw_below_drewN | apply below_drew1) | exact HB.out)) hb); have n2_ := Aside0.mk (hbox); have n3_ := Aside0.mk ((by rw [hg]; exact (below_size (by repeat (first | (with_reducible first | exact HB.out | apply below_alloc | apply pw_below_drewN | apply below_drew1) | exact HB.out))) : w.heap.size ≤ gb131)); have n4_ := Aside0.mk ((by rw [hg]; exact (below_size (by repeat (first | (with_reducible first | exact HB.out | apply below_alloc | apply pw_below_drewN | apply below_drew1) | exact HB.out))) : w.heap.size ≤ gb131)); clear HO128; clear HB; have HO128 := n0_; have HB := n1_; have BK131 := n2_; have GW131 := n3_; have GE131 := n4_; clear n0_ n1_ n2_ n3_ n4_; clear hb hbox hg; have hcz42_0 : w41.cell? ⟨gb131, 0, none⟩ = some (.int .i64 0) := (blk_cell BK131.out 0).trans rfl; have hcz42_1 : w41.cell? ⟨gb131, 1, none⟩ = some (.int .i64 0) := (blk_cell BK131.out 1).trans rfl; have hfz42_0 := blk_frozen BK131.out 0; have hfz42_1 := blk_frozen BK131.out 1; obtain ⟨Ao43, co43, eo43⟩ := Kd.R_slice HO128.out; subst eo43))
              go_ret
              exact ⟨by first | rfl | (simp [errW_none, errW_some] <;> rfl) | (simp [*, errW_none, errW_some] <;> rfl), by repeat (first | (with_reducible first | exact HB.out | apply below_alloc | apply pw_below_drewN | apply below_drew1 | refine below_set ?_ GE131.out) | exact HB.out)⟩
          · rw [if_neg c13] at H
            have c13b0 : (t129 == 0) = false := beq_eq_false_iff_ne.mpr c13
            have c13b1 : (t129 != 0) = true := bne_iff_ne.mpr c13
            obtain rfl := Option.some.inj H
            go_wp2_with (first | ((with_reducible refine gate_callee (f := 13) rfl ?_); refine goesL_ (some 10) rfl rfl Try.func13 (by kernel_rfl) rfl #[.int .u64 7] rfl (by (try simp only [List.map_toArray, List.map_cons, List.map_nil]); first | done | rfl | (simp only [List.length_drop, List.length_take]; rfl)) ?_; (with_reducible refine (wire_Int.calls 7 t124 _ A9.out).mono ?_); rintro e w44 ⟨rfl, hb⟩; refine ⟨_, rfl, ?_⟩; have n0_ := Aside0.mk (below_step (by repeat (first | (with_reducible first | exact HB.out | apply below_alloc | apply pw_below_drewN | apply below_drew1) | exact HB.out)) hb); clear HB; have HB := n0_; clear n0_; (try clear hb); (try clear hb2); (try clear hk); (try clear hi)) | ((with_reducible refine gate_callee (f := 15) rfl ?_); refine goesL_ (some 11) rfl rfl Try.func15 (by kernel_rfl) rfl #[.string (⟨#[97]⟩ : ByteArray)] rfl (by (try simp only [List.map_toArray, List.map_cons, List.map_nil]); first | done | rfl | (simp only [List.length_drop, List.length_take]; rfl)) ?_; (with_reducible refine (wire_Text.calls (⟨#[97]⟩ : ByteArray) t125 _ A10.out).mono ?_); rintro e w45 ⟨rfl, hb⟩; refine ⟨_, rfl, ?_⟩; have n0_ := Aside0.mk (below_step (by repeat (first | (with_reducible first | exact HB.out | apply below_alloc | apply pw_below_drewN | apply below_drew1) | exact HB.out)) hb); clear HB; have HB := n0_; clear n0_; (try clear hb); (try clear hb2); (try clear hk); (try clear hi)) | ((with_reducible refine gate_callee (f := 19) rfl ?_); refine goesL_ (some 13) rfl rfl Try.func19 (by kernel_rfl) rfl #[.string (t124 ++ t125), .string (⟨#[105, 116]⟩ : ByteArray), .int .i64 1] rfl (by (try simp only [List.map_toArray, List.map_cons, List.map_nil]); first | done | rfl | (simp only [List.length_drop, List.length_take]; rfl)) ?_; (with_reducible refine (wire_Split.calls (t124 ++ t125) (⟨#[105, 116]⟩ : ByteArray) 1 t126 t129 t130 _ A12.out).mono ?_); rintro e w46 ⟨v127, rfl, ho0, hb⟩; refine ⟨_, rfl, ?_⟩; have n0_ := Aside0.mk (Kd.R_lower ho0 (below_size (by repeat (first | (with_reducible first | exact HB.out | apply below_alloc | apply pw_below_drewN | apply below_drew1) | exact HB.out)))); have n1_ := Aside0.mk (below_step (by repeat (first | (with_reducible first | exact HB.out | apply below_alloc | apply pw_below_drewN | apply below_drew1) | exact HB.out)) hb); clear HB; have HO128 := n0_; have HB := n1_; clear n0_ n1_; (try clear hb); (try clear hb2); (try clear hk); (try clear hi); (try clear ho0)) | ((with_reducible refine gate_dst (N := 2) rfl ?_); (try (refine gate_guard (by rfl) ?_; dsimp only)); refine box_event ?hg (N := 2) ?hd (cs := #[.int .i64 0, .int .i64 0]) (t := 31) ?hr ?_; (case hd => rfl); (case hg => rfl); (case hr => first | (go_simp; done) | (go_simp; rfl)); intro gb131 hg w47 hbox hb; have n0_ := Aside0.mk (Kd.R_below (by (with_reducible repeat (first | apply Kd.R_alloc | apply Kd.R_drewN | apply Kd.R_drew)); exact HO128.out) hb); have n1_ := Aside0.mk (below_step (by repeat (first | (with_reducible first | exact HB.out | apply below_alloc | apply pw_below_drewN | apply below_drew1) | exact HB.out)) hb); have n2_ := Aside0.mk (hbox); have n3_ := Aside0.mk ((by rw [hg]; exact (below_size (by repeat (first | (with_reducible first | exact HB.out | apply below_alloc | apply pw_below_drewN | apply below_drew1) | exact HB.out))) : w.heap.size ≤ gb131)); have n4_ := Aside0.mk ((by rw [hg]; exact (below_size (by repeat (first | (with_reducible first | exact HB.out | apply below_alloc | apply pw_below_drewN | apply below_drew1) | exact HB.out))) : w.heap.size ≤ gb131)); clear HO128; clear HB; have HO128 := n0_; have HB := n1_; have BK131 := n2_; have GW131 := n3_; have GE131 := n4_; clear n0_ n1_ n2_ n3_ n4_; clear hb hbox hg; have hcz48_0 : w47.cell? ⟨gb131, 0, none⟩ = some (.int .i64 0) := (blk_cell BK131.out 0).trans rfl; have hcz48_1 : w47.cell? ⟨gb131, 1, none⟩ = some (.int .i64 0) := (blk_cell BK131.out 1).trans rfl; have hfz48_0 := blk_frozen BK131.out 0; have hfz48_1 := blk_frozen BK131.out 1))
            go_ret
            exact ⟨by first | rfl | (simp [errW_none, errW_some] <;> rfl) | (simp [*, errW_none, errW_some] <;> rfl), by repeat (first | (with_reducible first | exact HB.out | apply below_alloc | apply pw_below_drewN | apply below_drew1 | refine below_set ?_ GE131.out) | exact HB.out)⟩
        · rw [if_neg c11] at H
          exact absurd H (by simp)

end Go.Proofs.Ytnilogameaaooaa.Q
/- What Split and the document's Read answer for a whole text: one plain reading. -/
set_option linter.unusedVariables false
set_option linter.unusedSimpArgs false
namespace Go.Proofs.Ytnilogameaaooaa.Pure
open Go.RowKit Go.Proofs.Ytnilogameaaooaa.Q Go.Proofs.Ytnilogameaaooaa.Rdr Go.Proofs.Ytnilogameaaooaa.Tail Go.Proofs.YtnilogameaaooaaW.PrintWords Go.Proofs.YtnilogameaaooaaW.PrintLast Go.Proofs.YtnilogameaaooaaW.PrintMore Go.Proofs.Ytnilogameaaooaa.Bytes Go.Proofs.Ytnilogameaaooaa.Evs

/-- The reading of a whole text: items, code, place, bytes taken. -/
def got (text plan : ByteArray) (most : Int) : List S55 × Int × Int × Int :=
  match bad1 (bs plan) 0 with
  | some i => ([], 30, (i : Int), 0)
  | none => parse (m0 most) (bs plan) (numsOf text) 0
/-- The fault when the bytes end there. -/
def shutR (g : List S55 × Int × Int × Int) (n : Nat) : Int × Int :=
  if g.2.1 = 0 ∧ (g.1.length : Int) < (n : Int) then (4, g.2.2.2) else (g.2.1, g.2.2.1)
theorem parse_place : ∀ (m : Int) (l : List UInt8) (b : List Int) (t : Int), (parse m l b t).2.1 = 0 → (parse m l b t).2.2.1 = 0
  | m, [], b, t => by
    simp only [parse]
    split
    · exact fun _ => rfl
    · intro h; exact absurd (show _ = (0 : Int) from h) (by simp)
  | m, c :: l, b, t => by
    simp only [parse]
    split
    · exact fun _ => rfl
    · split
      · exact parse_place m l _ _
      · split
        · intro h; exact absurd (show _ = (0 : Int) from h) (by simp)
        · split
          · intro h; exact absurd (show _ = (0 : Int) from h) (by simp)
          · split
            · exact fun _ => rfl
            · exact parse_place m l _ _
theorem parse_len : ∀ (m : Int) (l : List UInt8) (b : List Int) (t : Int), (parse m l b t).1.length ≤ l.length
  | m, [], b, t => by
    simp only [parse]
    split <;> exact Nat.le_refl _
  | m, c :: l, b, t => by
    simp only [parse]
    split
    · exact Nat.zero_le _
    · split
      · exact Nat.succ_le_succ (parse_len m l _ _)
      · split
        · exact Nat.zero_le _
        · split
          · exact Nat.zero_le _
          · split
            · exact Nat.zero_le _
            · exact Nat.succ_le_succ (parse_len m l _ _)
theorem m0_range (most : Int) (h : most ≤ 9223372036854775807) : 0 ≤ m0 most ∧ m0 most ≤ 9223372036854775807 := by
  unfold m0; split <;> omega
theorem got_none {text plan : ByteArray} {most : Int} (h : bad1 (bs plan) 0 = none) : got text plan most = parse (m0 most) (bs plan) (numsOf text) 0 := by unfold got; rw [h]
theorem got_some {text plan : ByteArray} {most : Int} {i : Nat} (h : bad1 (bs plan) 0 = some i) : got text plan most = ([], 30, (i : Int), 0) := by unfold got; rw [h]
theorem got_len (text plan : ByteArray) (most : Int) : (got text plan most).1.length ≤ plan.size := by
  unfold got
  split
  · exact Nat.zero_le _
  · have := parse_len (m0 most) (bs plan) (numsOf text) 0
    rw [← size_bs] at this
    exact this
/-- feed of a new reader is the reading. -/
theorem feed_got (text plan : ByteArray) (most : Int) (h : most ≤ 9223372036854775807) : Answers (newM plan (m0 most)) (feed (newM plan (m0 most)) (numsOf text)) (got text plan most) := by
  have hm := m0_range most h
  cases hb : bad1 (bs plan) 0 with
  | some i =>
    rw [newM_some hb, got_some hb, feed_stop (by rfl)]
    exact ⟨rfl, rfl, rfl, rfl, rfl, rfl, rfl⟩
  | none =>
    rw [newM_none hb, got_none hb]
    exact feed_parse (bs plan) (startM plan (m0 most)) (numsOf text) ⟨rfl, rfl, rfl, rfl, rfl, rfl, rfl, rfl⟩ (Int.le_refl _) rfl (by show (0 : Int) ≤ (plan.size : Int); omega) (bad1_none _ _ hb) hm.1 (numsOf_range text)
theorem newM_item (plan : ByteArray) (m : Int) : (newM plan m).item = 0 ∧ (newM plan m).plan = plan := by
  unfold newM
  split <;> exact ⟨rfl, rfl⟩
theorem split_got (text plan : ByteArray) (most : Int) (h1 : text.size ≤ 1099511627776) (h2 : plan.size ≤ 1099511627776) (h : most ≤ 9223372036854775807) :
    wire_Split.f text plan most = some (if (shutR (got text plan most) plan.size).1 = 0 then ((got text plan most).1, 0, 0) else ([], (shutR (got text plan most) plan.size).1, (shutR (got text plan most) plan.size).2)) := by
  have hA := feed_got text plan most h
  obtain ⟨n1, n2⟩ := newM_item plan (m0 most)
  unfold wire_Split.f
  rw [if_pos ⟨h1, h2, h⟩]
  unfold split
  generalize feed (newM plan (m0 most)) (numsOf text) = F at hA ⊢
  obtain ⟨a1, a2, a3, a4, a5, a6, a7⟩ := hA
  rw [n1] at a5
  rw [n2] at a6
  have hs : (close F.1).code = (shutR (got text plan most) plan.size).1 ∧ (close F.1).place = (shutR (got text plan most) plan.size).2 := by
    unfold close shutR Ps.stopped
    rw [a7, a6, a5, a2, a4]
    by_cases hc : (got text plan most).2.1 = 0
    · rw [if_neg (by rw [hc]; simp)]
      by_cases hl : ((got text plan most).1.length : Int) < (plan.size : Int)
      · rw [if_pos (by omega), if_pos ⟨hc, hl⟩]
        exact ⟨rfl, rfl⟩
      · rw [if_neg (by omega), if_neg (fun q => hl q.2)]
        exact ⟨rfl, a3⟩
    · rw [if_pos (by simp [hc]), if_neg (fun q => hc q.1)]
      exact ⟨rfl, a3⟩
  rw [a1]
  rw [hs.1, hs.2]
  by_cases hc : (shutR (got text plan most) plan.size).1 = 0
  · rw [if_pos hc, if_pos hc]
  · rw [if_neg hc, if_neg hc]
theorem planned_ev (plan : ByteArray) (hp : plan.size ≤ 1099511627776) : ∀ (l : List UInt8) (i : Nat), (bs plan).drop i = l → i ≤ plan.size →
    Ev (fun k => depotref03_Planned.l0 k plan (i : Int)) (match bad1 l i with | some j => (j : Int) | none => -1) := by
  intro l
  induction l with
  | nil =>
    intro i hl hi
    have hie : i = plan.size := by
      have := congrArg List.length hl
      rw [List.length_drop, ← size_bs] at this
      simp at this
      omega
    apply succ
    simp only [depotref03_Planned.l0, bad1]
    exact neg (by omega) (now rfl)
  | cons c l ih =>
    intro i hl hi
    have hlt : i < (bs plan).length := by
      have := congrArg List.length hl
      rw [List.length_drop, List.length_cons] at this
      omega
    have hip : i < plan.size := by rw [size_bs]; exact hlt
    have hcd := List.drop_eq_getElem_cons hlt
    rw [hl] at hcd
    have hce : c = (bs plan)[i] := (List.cons.inj hcd).1
    have hle : (bs plan).drop (i + 1) = l := (List.cons.inj hcd).2.symm
    have HBT := Aside0.mk (show bt plan (i : Int) = (c.toNat : Int) by
      have hg : (bs plan).getD i 0 = c := by rw [List.getD_eq_getElem?_getD, List.getElem?_eq_getElem hlt]; exact hce.symm
      rw [bt_bs, Int.toNat_natCast, hg])
    have := ih (i + 1) hle hip
    clear hcd hl hce
    apply succ
    simp only [depotref03_Planned.l0, bad1]
    have hw : wrap64 ((i : Int) + 1) = ((i + 1 : Nat) : Int) := wr i (by omega)
    refine pos (by omega) (pos (by omega) ?_)
    rw [hw, HBT.out]
    by_cases h5 : c = 105
    · rw [if_pos (.inl h5)]
      exact pos (by rw [h5]; rfl) this
    · refine neg (fun q => h5 ((byte_eq_iff c 105).1 q)) ?_
      by_cases h6 : c = 116
      · rw [if_pos (.inr h6)]
        exact pos (by rw [h6]; rfl) this
      · rw [if_neg (fun q => q.elim h5 h6)]
        exact neg (fun q => h6 ((byte_eq_iff c 116).1 q)) (now rfl)
theorem readj_ev (text plan : ByteArray) (most m : Int) (hm : m0 most = m) (h1 : text.size ≤ 1099511627776) (h2 : plan.size ≤ 1099511627776) (h3 : 0 ≤ m) (h4 : m ≤ 9223372036854775807) :
    Ev (fun k => depotref03_Read.j0 k text plan m) ((got text plan most).1.map to78, (got text plan most).2.1, (got text plan most).2.2.1, (got text plan most).2.2.2) := by
  apply succ
  simp only [depotref03_Read.j0]
  have hP := planned_ev plan h2 (bs plan) 0 rfl (Nat.zero_le _)
  cases hb : bad1 (bs plan) 0 with
  | some i =>
    rw [hb] at hP
    refine Ev.bind hP (pos (by simp only; omega) (now ?_))
    rw [got_some hb]
    rfl
  | none =>
    rw [hb] at hP
    refine Ev.bind hP (neg (by simp) ?_)
    rw [got_none hb, hm]
    have := read_ev text plan m h1 h2 h3 h4 (bs plan) 0 0 [] rfl (Nat.zero_le _) (Nat.zero_le _) rfl (bad1_none _ _ hb)
    rw [List.drop_zero, List.nil_append] at this
    exact this
theorem read_got (text plan : ByteArray) (most : Int) (h1 : text.size ≤ 1099511627776) (h2 : plan.size ≤ 1099511627776) (h : most ≤ 9223372036854775807) :
    Ev (fun k => depotref03_Read.f k text plan most) ((got text plan most).1.map to78, (got text plan most).2.1, (got text plan most).2.2.1, (got text plan most).2.2.2) := by
  simp only [depotref03_Read.f]
  by_cases hn : most < 0
  · exact pos hn (readj_ev text plan most 0 (by unfold m0; rw [if_pos hn]) h1 h2 (by omega) (by omega))
  · exact neg hn (readj_ev text plan most most (by unfold m0; rw [if_neg hn]) h1 h2 (by omega) h)
theorem closed_got (text plan : ByteArray) (most : Int) (h1 : text.size ≤ 1099511627776) (h2 : plan.size ≤ 1099511627776) (h : most ≤ 9223372036854775807) :
    Ev (fun k => depotref03_Closed.f k text plan most) (shutR (got text plan most) plan.size) := by
  simp only [depotref03_Closed.f]
  refine Ev.bind (read_got text plan most h1 h2 h) ?_
  unfold shutR
  rw [List.length_map]
  by_cases hc : (got text plan most).2.1 = 0
  · refine pos hc ?_
    by_cases hl : ((got text plan most).1.length : Int) < (plan.size : Int)
    · exact pos hl (now (by rw [if_pos ⟨hc, hl⟩]))
    · exact neg hl (now (by rw [if_neg (fun q => hl q.2)]))
  · exact neg hc (now (by rw [if_neg (fun q => hc q.1)]))
theorem same_in (xs : List S55) (ys : List S78) (hs : ys.length + xs.length ≤ 1099511627776) : ∀ (d i : Nat), i + d = xs.length →
    Ev (fun k => depotlaw03_same.l0 k (ys ++ xs.map to78) (ys.length : Int) xs (xs.length : Int) (i : Int)) true := by
  intro d
  induction d with
  | zero =>
    intro i hi
    apply succ
    simp only [depotlaw03_same.l0]
    exact neg (by omega) (now rfl)
  | succ d ih =>
    intro i hi
    have ih := ih (i + 1) (by omega)
    have hw : wrap64 ((i : Int) + 1) = ((i + 1 : Nat) : Int) := wr i (by omega)
    have hv : wrap64 ((ys.length : Int) + (i : Int)) = ((ys.length + i : Nat) : Int) := by rw [w64 (by omega) (by omega)]; omega
    have hlt : i < xs.length := by omega
    have e1 : rd_T55 xs (i : Int) = xs[i] := by
      unfold rd_T55
      rw [Int.toNat_natCast, List.getD_eq_getElem?_getD, List.getElem?_eq_getElem hlt]
      rfl
    have e2 : rd_T78 (ys ++ xs.map to78) ((ys.length + i : Nat) : Int) = to78 xs[i] := by
      unfold rd_T78
      rw [Int.toNat_natCast, List.getD_eq_getElem?_getD, List.getElem?_append_right (Nat.le_add_right _ _), Nat.add_sub_cancel_left, List.getElem?_map, List.getElem?_eq_getElem hlt]
      rfl
    apply succ
    simp only [depotlaw03_same.l0]
    rw [hw, hv, e1, e2]
    refine pos (by omega) (pos (by omega) (pos (by omega) (pos (by omega) (pos (by rw [List.length_append, List.length_map]; omega) (neg (by simp [to78]) (pos rfl (pos rfl ih)))))))
theorem same_ev (xs : List S55) (ys : List S78) (hs : ys.length + xs.length ≤ 1099511627776) :
    Ev (fun k => depotlaw03_same.f k xs (ys ++ xs.map to78) (ys.length : Int)) true := by
  simp only [depotlaw03_same.f]
  refine pos ?_ (same_in xs ys hs xs.length 0 (by omega))
  rw [List.length_append, List.length_map, w64 (by omega) (by omega)]
  omega
theorem shut_zero {g : List S55 × Int × Int × Int} {n : Nat} (h : (shutR g n).1 = 0) : g.2.1 = 0 ∧ ¬ (g.1.length : Int) < (n : Int) := by
  unfold shutR at h
  split at h
  · exact absurd (show (4 : Int) = 0 from h) (by decide)
  · rename_i hc
    exact ⟨h, fun q => hc ⟨h, q⟩⟩
theorem got_place {text plan : ByteArray} {most : Int} (h : (got text plan most).2.1 = 0) : (got text plan most).2.2.1 = 0 := by
  cases hb : bad1 (bs plan) 0 with
  | some i => rw [got_some hb] at h; exact absurd (show (30 : Int) = 0 from h) (by decide)
  | none => rw [got_none hb] at h ⊢; exact parse_place _ _ _ _ h
theorem shut_place {text plan : ByteArray} {most : Int} (h : (shutR (got text plan most) plan.size).1 = 0) : (shutR (got text plan most) plan.size).2 = 0 := by
  obtain ⟨h1, h2⟩ := shut_zero h
  unfold shutR
  rw [if_neg (fun q => h2 q.2)]
  exact got_place h1
theorem nums_app (a b : ByteArray) : numsOf (a ++ b) = numsOf a ++ numsOf b := by
  have h : (a ++ b).data.toList = a.data.toList ++ b.data.toList := bs_append a b
  unfold numsOf
  rw [← List.map_append, h]
theorem awake_ev : Ev (fun k => depotlaw03_awake.f k) true := by
  simp only [depotlaw03_awake.f]
  have f1 : frame8 (⟨#[97]⟩ : ByteArray) = [1, 0, 0, 0, 0, 0, 0, 0, 97, 0, 0, 0, 0, 0, 0, 0] := by decide
  have f2 : le8 258 = [2, 1, 0, 0, 0, 0, 0, 0] := by decide
  have f3 : le8 7 = [7, 0, 0, 0, 0, 0, 0, 0] := by decide
  have hT : wire_Text.f (⟨#[97]⟩ : ByteArray) = some (strOfNums [1, 0, 0, 0, 0, 0, 0, 0, 97, 0, 0, 0, 0, 0, 0, 0]) := by rw [← f1]; exact if_pos (by decide)
  have hI : wire_Int.f 258 = some (strOfNums [2, 1, 0, 0, 0, 0, 0, 0]) := by rw [← f2]; rfl
  have hJ : wire_Int.f 7 = some (strOfNums [7, 0, 0, 0, 0, 0, 0, 0]) := by rw [← f3]; rfl
  refine call hT (pos (by rw [toList_bs, bs_strOfNums]; decide) (call hI ?_))
  rw [toList_bs, bs_strOfNums]
  refine succ ?_
  simp only [depotlaw03_awake.j0]
  refine neg (by decide) (call hJ (call hT (pos (by decide) ?_)))
  have hS := split_got (strOfNums [7, 0, 0, 0, 0, 0, 0, 0] ++ strOfNums [1, 0, 0, 0, 0, 0, 0, 0, 97, 0, 0, 0, 0, 0, 0, 0]) (⟨#[105, 116]⟩ : ByteArray) 1 (by decide) (by decide) (by decide)
  have hG : got (strOfNums [7, 0, 0, 0, 0, 0, 0, 0] ++ strOfNums [1, 0, 0, 0, 0, 0, 0, 0, 97, 0, 0, 0, 0, 0, 0, 0]) (⟨#[105, 116]⟩ : ByteArray) 1 = ([⟨true, 7, ⟨#[]⟩⟩, ⟨false, 0, ⟨#[97]⟩⟩], 0, 0, 24) := by
    rw [got_none (by decide), nums_app, numsOf_str _ (by decide), numsOf_str _ (by decide)]
    rfl
  rw [hG] at hS
  have hS : wire_Split.f (strOfNums [7, 0, 0, 0, 0, 0, 0, 0] ++ strOfNums [1, 0, 0, 0, 0, 0, 0, 0, 97, 0, 0, 0, 0, 0, 0, 0]) (⟨#[105, 116]⟩ : ByteArray) 1 = some ([⟨true, 7, ⟨#[]⟩⟩, ⟨false, 0, ⟨#[97]⟩⟩], 0, 0) := hS.trans rfl
  refine call hS (pos rfl (pos rfl (pos (by decide) (pos rfl (pos rfl (pos (by decide) (now (by rw [show ((rd_T55 [⟨true, 7, ⟨#[]⟩⟩, ⟨false, 0, ⟨#[97]⟩⟩] 1).f2) = (⟨#[97]⟩ : ByteArray) from rfl, toList_bs]; decide))))))))
end Go.Proofs.Ytnilogameaaooaa.Pure
/- feed, cut by cut. -/
namespace Go.Proofs.Ytnilogameaaooaa.Rdr
open Go.RowKit Go.Proofs.Ytnilogameaaooaa.Q Go.Proofs.Ytnilogameaaooaa.Tail Go.Proofs.YtnilogameaaooaaW.PrintWords Go.Proofs.YtnilogameaaooaaW.PrintLast Go.Proofs.YtnilogameaaooaaW.PrintMore Go.Proofs.Ytnilogameaaooaa.Bytes
set_option linter.unusedVariables false
set_option linter.unusedSimpArgs false

theorem code_stops {p : Ps} (h : p.code ≠ 0) : p.stopped = true := by unfold Ps.stopped; simp [h]
theorem tk_bad_code {p : Ps} {c : Int} (h : ¬ (tk p c).1 = true) : (tk p c).2.code ≠ 0 := by
  unfold tk at h ⊢
  split
  · rename_i hs
    rw [if_pos hs] at h
    split
    · simp
    · rename_i hq
      rw [if_neg hq] at h
      exact absurd rfl h
  · rename_i hs
    rw [if_neg hs] at h
    split
    · rename_i h1
      rw [if_pos h1] at h
      exact absurd rfl h
    · rename_i h1
      rw [if_neg h1] at h
      split
      · rename_i h2
        rw [if_pos h2] at h
        exact absurd rfl h
      · simp
theorem feed_nil (p : Ps) : feed p [] = (p, []) := rfl
theorem feed_app : ∀ (a : List Int) (p : Ps) (b : List Int), feed p (a ++ b) = ((feed (feed p a).1 b).1, (feed p a).2 ++ (feed (feed p a).1 b).2)
  | [], p, b => by rw [feed_nil]; rfl
  | c :: a, p, b => by
    by_cases hs : p.stopped = true
    · rw [feed_stop hs, feed_stop hs, feed_stop hs]; rfl
    · by_cases hi : p.item = (p.plan.size : Int)
      · rw [List.cons_append, feed_trail hs hi, feed_trail hs hi, feed_stop (code_stops (by simp))]; rfl
      · by_cases ht : (tk p c).1 = true
        · by_cases hn : 0 < (tick p c).need
          · rw [List.cons_append, feed_more hs hi ht hn, feed_more hs hi ht hn]
            exact feed_app a _ b
          · rw [List.cons_append, feed_next hs hi ht hn, feed_next hs hi ht hn, feed_app a _ b]
            simp only [List.append_assoc]
        · rw [List.cons_append, feed_bad hs hi ht, feed_bad hs hi ht, feed_stop (code_stops (tk_bad_code ht))]; rfl
theorem not_shut {p : Ps} (h : ¬ p.stopped = true) : p.code = 0 := by
  apply Classical.byContradiction
  intro q
  exact h (code_stops q)
theorem feed_wf : ∀ (cs : List Int) (p : Ps), (p.stopped = true ∨ Wf p) → (∀ x ∈ cs, 0 ≤ x ∧ x < 256) → ((feed p cs).1.stopped = true ∨ Wf (feed p cs).1)
  | [], p, h, _ => h
  | c :: cs, p, h, hb => by
    by_cases hs : p.stopped = true
    · rw [feed_stop hs]; exact .inl hs
    · have hW := h.resolve_left hs
      have hc := hb c List.mem_cons_self
      have hb' := fun x hx => hb x (List.mem_cons_of_mem c hx)
      by_cases hi : p.item = (p.plan.size : Int)
      · rw [feed_trail hs hi]; exact .inl (code_stops (by simp))
      · have hrun : p.item < (p.plan.size : Int) := by have := hW.item; omega
        by_cases ht : (tk p c).1 = true
        · by_cases hn : 0 < (tick p c).need
          · rw [feed_more hs hi ht hn]
            exact feed_wf cs _ (.inr (wf_tick hW hc ht hn)) hb'
          · rw [feed_next hs hi ht hn]
            exact feed_wf cs _ (.inr (wf_nx hW hrun ht (done_tick hW (not_shut hs) hrun hc ht hn))) hb'
        · rw [feed_bad hs hi ht]; exact .inl (code_stops (tk_bad_code ht))
theorem tk_taken (p : Ps) (c : Int) : (tk p c).2.taken = p.taken := by
  unfold tk
  split
  · split <;> rfl
  · split
    · rfl
    · split <;> rfl
theorem tick_taken (p : Ps) (c : Int) : (tick p c).taken = p.taken + 1 := by
  unfold tick
  simp only [tk_taken]
theorem feed_taken : ∀ (cs : List Int) (p : Ps), p.taken ≤ (feed p cs).1.taken ∧ (feed p cs).1.taken ≤ p.taken + (cs.length : Int)
  | [], p => by rw [feed_nil]; simp
  | c :: cs, p => by
    by_cases hs : p.stopped = true
    · rw [feed_stop hs]; simp only [List.length_cons]; omega
    · by_cases hi : p.item = (p.plan.size : Int)
      · rw [feed_trail hs hi]; simp only [List.length_cons]; omega
      · by_cases ht : (tk p c).1 = true
        · have e := tick_taken p c
          by_cases hn : 0 < (tick p c).need
          · rw [feed_more hs hi ht hn]
            have := feed_taken cs (tick p c)
            simp only [List.length_cons]; omega
          · rw [feed_next hs hi ht hn]
            have := feed_taken cs (nx (tick p c)).2
            rw [nx_taken, e] at this
            simp only [List.length_cons]; omega
        · rw [feed_bad hs hi ht, tk_taken]; simp only [List.length_cons]; omega
theorem tk_item (p : Ps) (c : Int) : (tk p c).2.item = p.item ∧ (tk p c).2.plan = p.plan := by
  unfold tk
  split
  · split <;> exact ⟨rfl, rfl⟩
  · split
    · exact ⟨rfl, rfl⟩
    · split <;> exact ⟨rfl, rfl⟩
theorem nx_item (q : Ps) : (nx q).2.item = q.item + ((nx q).1.toList.length : Int) ∧ (nx q).2.plan = q.plan := by
  unfold nx
  split
  · exact ⟨rfl, rfl⟩
  · split
    · exact ⟨(Int.add_zero _).symm, rfl⟩
    · split
      · exact ⟨(Int.add_zero _).symm, rfl⟩
      · exact ⟨rfl, rfl⟩
theorem nx_len (q : Ps) : (nx q).1.toList.length ≤ 1 := by
  cases (nx q).1 <;> simp
theorem feed_items : ∀ (cs : List Int) (p : Ps), p.item ≤ (p.plan.size : Int) → ((feed p cs).2.length : Int) + p.item ≤ (p.plan.size : Int)
  | [], p, h => by rw [feed_nil]; simpa using h
  | c :: cs, p, h => by
    by_cases hs : p.stopped = true
    · rw [feed_stop hs]; simpa using h
    · by_cases hi : p.item = (p.plan.size : Int)
      · rw [feed_trail hs hi]; simpa using h
      · by_cases ht : (tk p c).1 = true
        · have e1 : (tick p c).item = p.item := (tk_item p c).1
          have e2 : (tick p c).plan = p.plan := (tk_item p c).2
          by_cases hn : 0 < (tick p c).need
          · rw [feed_more hs hi ht hn]
            have := feed_items cs (tick p c) (by rw [e1, e2]; exact h)
            rw [e1, e2] at this
            exact this
          · rw [feed_next hs hi ht hn]
            obtain ⟨n1, n2⟩ := nx_item (tick p c)
            have n3 := nx_len (tick p c)
            have := feed_items cs (nx (tick p c)).2 (by rw [n1, n2, e1, e2]; omega)
            rw [n1, n2, e1, e2] at this
            rw [List.length_append]
            omega
        · rw [feed_bad hs hi ht]; simpa using h
/-- Beside a block that is new, the reader stays what it is. -/
theorem Rep.apart {p : Ps} {w W : World} {b base g : Nat} {ok : Nat → Prop} (h : Rep p w b base ok) (hg : w.heap.size ≤ g) (hb : Below w.heap.size w W) : Rep p W b base (fun k => ok k ∧ k ≠ g) := by
  obtain ⟨v, hA, hR⟩ := h
  refine ⟨v, (hb.block _ hA.lt).trans hA, Kd.R_below (Kd.R_mono (Kd.R_bound hR) ?_) hb⟩
  rintro k ⟨h1, _, h2, _⟩
  exact ⟨h1, by omega⟩
theorem Rep.wider {p : Ps} {w : World} {b base : Nat} {ok ok' : Nat → Prop} (h : Rep p w b base ok) (hk : ∀ k, ok k → ok' k) : Rep p w b base ok' := by
  obtain ⟨v, hA, hR⟩ := h
  exact ⟨v, hA, Kd.R_mono hR hk⟩
theorem Rep.below {p : Ps} {w W : World} {b base : Nat} {ok : Nat → Prop} (h : Rep p w b base ok) (hb : Below w.heap.size w W) : Rep p W b base ok := by
  obtain ⟨v, hA, hR⟩ := h
  exact ⟨v, (hb.block _ hA.lt).trans hA, Kd.R_below hR hb⟩
/-- Another row has grown: a row of items. -/
theorem Rep.grown {p : Ps} {w w1 : World} {b base : Nat} {ok : Nat → Prop} (h : Rep p w b base ok) {v : Value} {its : List S55} {B : Nat} {okR : Nat → Prop} (hO : Kd.R k55 55 w B okR v its) (hg : w.grownBy w1 v.ownBlock) : Rep p w1 b base ok := by
  obtain ⟨u, hA, hR⟩ := h
  refine ⟨u, (hg.block b hA.lt (Kd.R_ne hO hA (by decide))).trans hA, Kd.R_mono (Kd.R_grown (Kd.R_bound hR) hg ?_) (fun k hk => hk.1)⟩
  rintro k ⟨_, _, _, q, hq, cells, hc⟩
  have hq' : q = 5 := by
    rcases List.mem_cons.1 hq with e | e
    · exact e
    · exact absurd e (by simp [Kd.int, Kd.scalar])
  subst hq'
  exact Kd.R_ne hO hc (by decide)
/-- A row of items stays, where a reader has been fed. -/
theorem Frame.row {W W' : World} {b base : Nat} {ok : Nat → Prop} (h : Rdr.Frame ok b W W') {p : Ps} {B : Nat} {okR : Nat → Prop} (hA : Rep p W b B okR) {v : Value} {its : List S55} (hO : Kd.R k55 55 W base (fun _ => True) v its) : Kd.R k55 55 W' base (fun _ => True) v its := by
  obtain ⟨v', hA', _⟩ := hA
  exact h.out hA' hO
end Go.Proofs.Ytnilogameaaooaa.Rdr
/- depotlaw03.fedIn, walked by hand: however the text is cut, the answer is that of the whole. -/
namespace Go.Proofs.Ytnilogameaaooaa.Q
open Go.RowKit Go.Proofs.Ytnilogameaaooaa.Rdr Go.Proofs.Ytnilogameaaooaa.Tail Go.Proofs.YtnilogameaaooaaW.PrintWords Go.Proofs.YtnilogameaaooaaW.PrintLast Go.Proofs.YtnilogameaaooaaW.PrintMore Go.Proofs.Ytnilogameaaooaa.Bytes
set_option linter.unusedVariables false
set_option linter.unusedSimpArgs false

def fedAll (text plan : ByteArray) (most : Int) : Ps × List S55 := feed (newM plan (m0 most)) (numsOf text)
def depotlaw03_fedIn.f (a0 : ByteArray) (a1 : ByteArray) (a2 : Int) (l3 : List Int) : Option (List (S55) × Int × Int × Int) :=
  if a0.size ≤ 1099511627776 ∧ a1.size ≤ 1099511627776 ∧ a2 ≤ 9223372036854775807 then
    some ((fedAll a0 a1 a2).2, (close (fedAll a0 a1 a2).1).code, (close (fedAll a0 a1 a2).1).place, (fedAll a0 a1 a2).1.taken)
  else none
theorem results_tct {P : Program} {fn : Func} {p u v : Tmp} {ty : TypeId} (h : fn.results = #[.tmp u, .cell p ty, .tmp v]) (tmps : Array Value) (w : World) (g : Nat) (t : TypeId) (cs : Array Value) (fr : Nat × Nat) (d : TypeDesc)
    (hp : tmps.getD p undef = .pointer (some ⟨g, 0, none⟩)) (hg : w.heap[g]? = some (.cells cs t fr))
    (hu : P.underlying ty = some d) (hd : (match d with | .struct _ | .array _ _ => true | _ => false) = true) (hi : (P.info? ty).map (·.size) = some cs.size) :
    (results fn tmps).run P w = .ok (.tuple #[tmps.getD u undef, .agg cs, tmps.getD v undef]) w := by
  have hp' : tmps[p]?.getD undef = .pointer (some ⟨g, 0, none⟩) := by simpa using hp
  simp [results, h, hp', asAddr, run_loadVar_row w g t ty cs fr d hg hu hd hi]
/-- The cut's bytes. -/
theorem nums_cut (s : ByteArray) (i j : Nat) : numsOf (s.extract i j) = ((numsOf s).drop i).take (j - i) := by
  have h : (s.extract i j).data.toList = (s.data.toList.drop i).take (j - i) := bs_extract s i j
  unfold numsOf
  rw [h, List.map_take, List.map_drop]
theorem take_cut (l : List Int) (i c : Nat) : l.take (i + c) = l.take i ++ (l.drop i).take c := by rw [List.take_add]
/-- What stands behind i bytes. -/
structure Mid (w wx : World) (text plan : ByteArray) (most : Int) (at_ : Nat) (v : Value) : Prop where
  rep : Rep (feed (newM plan (m0 most)) ((numsOf text).take at_)).1 wx (w.heap.size + 1) w.heap.size (fun k => w.heap.size + 2 ≤ k)
  row : Kd.R k55 55 wx w.heap.size (fun _ => True) v (feed (newM plan (m0 most)) ((numsOf text).take at_)).2
  flt : wx.heap[w.heap.size]? = some (.cells #[.int .i64 0, .int .i64 0] 31 (0, 0))
  bel : Below w.heap.size w wx
/-- A cut is fed and what it gave is appended: what stands then. -/
theorem Mid.step {w w3 w4 w5 : World} {text plan : ByteArray} {most : Int} {a c gp : Nat} {v v1 : Value} (hsz : a + c ≤ text.size)
    (hF : Rdr.Frame (fun k => w.heap.size + 2 ≤ k ∧ k ≠ gp) (w.heap.size + 1) w3 w4) (hbel3 : Below w.heap.size w w3) (hflt3 : w3.heap[w.heap.size]? = some (.cells #[.int .i64 0, .int .i64 0] 31 (0, 0)))
    (hrep4 : Rep (feed (feed (newM plan (m0 most)) ((numsOf text).take a)).1 (numsOf (text.extract a (a + c)))).1 w4 (w.heap.size + 1) w.heap.size (fun k => w.heap.size + 2 ≤ k ∧ k ≠ gp))
    (hrow4 : Kd.R k55 55 w4 w.heap.size (fun _ => True) v (feed (newM plan (m0 most)) ((numsOf text).take a)).2)
    (hg : w4.grownBy w5 v.ownBlock) (hbel5 : Below w.heap.size w w5)
    (hrow5 : Kd.R k55 55 w5 w.heap.size (fun _ => True) v1 ((feed (newM plan (m0 most)) ((numsOf text).take a)).2 ++ (feed (feed (newM plan (m0 most)) ((numsOf text).take a)).1 (numsOf (text.extract a (a + c)))).2)) :
    Mid w w5 text plan most (a + c) v1 := by
  have hcut : numsOf (text.extract a (a + c)) = ((numsOf text).drop a).take c := by rw [nums_cut, Nat.add_sub_cancel_left]
  have e : feed (newM plan (m0 most)) ((numsOf text).take (a + c)) = ((feed (feed (newM plan (m0 most)) ((numsOf text).take a)).1 (numsOf (text.extract a (a + c)))).1, (feed (newM plan (m0 most)) ((numsOf text).take a)).2 ++ (feed (feed (newM plan (m0 most)) ((numsOf text).take a)).1 (numsOf (text.extract a (a + c)))).2) := by
    rw [take_cut, feed_app, hcut]
  have hflt4 := fault_kept hF hflt3 (by omega)
  refine ⟨?_, ?_, ?_, hbel5⟩
  · rw [e]
    exact (hrep4.grown hrow4 hg).wider (fun k hk => hk.1)
  · rw [e]; exact hrow5
  · exact (hg.block _ (Array.getElem?_eq_some_iff.1 hflt4).1 (Kd.R_ne hrow4 hflt4 (by decide))).trans hflt4
theorem Mid.start {w w2 : World} {text plan : ByteArray} {most : Int} (hT : (newM plan (m0 most)).text = []) (hA : ((newM plan (m0 most)).rd (.slice none 0 0)).At w2 (w.heap.size + 1))
    (hB : Below (w.heap.size + 1) (w.alloc (.cells #[.int .i64 0, .int .i64 0] 31)) w2) : Mid w w2 text plan most 0 (.slice none 0 0) := by
  refine ⟨⟨.slice none 0 0, hA, ?_⟩, Kd.R_nil _ _ _ _ _, (hB.block _ (by omega)).trans (heap_alloc_new w _), ((Below.refl _ w).alloc (Nat.le_refl _) _).trans (hB.mono (by omega))⟩
  show Kd.R (Kd.int .u8) 5 w2 _ _ _ (newM plan (m0 most)).text
  rw [hT]
  exact Kd.R_nil _ _ _ _ _
theorem fed_len (plan : ByteArray) (m : Int) (l1 l2 : List Int) : (feed (newM plan m) l1).2.length + (feed (feed (newM plan m) l1).1 l2).2.length ≤ plan.size := by
  have h1 : (newM plan m).item = 0 ∧ (newM plan m).plan = plan := by unfold newM; split <;> exact ⟨rfl, rfl⟩
  have := feed_items (l1 ++ l2) (newM plan m) (by rw [h1.1, h1.2]; omega)
  rw [h1.1, h1.2, feed_app, List.length_append] at this
  omega
theorem cut_size' (s : ByteArray) (a : Nat) : (s.extract a s.size).size ≤ s.size := by rw [ByteArray.size_extract]; omega
theorem cut_len' (s : ByteArray) (a : Nat) : (numsOf (s.extract a s.size)).length = s.size - a := by rw [numsOf_len, ByteArray.size_extract, Nat.min_self]
theorem Mid.rep' {w wx : World} {text plan : ByteArray} {most : Int} {v : Value} (h : Mid w wx text plan most text.size v) : Rep (fedAll text plan most).1 wx (w.heap.size + 1) w.heap.size (fun k => w.heap.size + 2 ≤ k) := by
  have := h.rep
  rw [List.take_of_length_le (by rw [numsOf_len]; exact Nat.le_refl _)] at this
  exact this
theorem Mid.row' {w wx : World} {text plan : ByteArray} {most : Int} {v : Value} (h : Mid w wx text plan most text.size v) : Kd.R k55 55 wx w.heap.size (fun _ => True) v (fedAll text plan most).2 := by
  have := h.row
  rw [List.take_of_length_le (by rw [numsOf_len]; exact Nat.le_refl _)] at this
  exact this
theorem Mid.last {w wx w3 w4 w5 : World} {text plan : ByteArray} {most : Int} {a gp : Nat} {v v1 : Value} (hs : text.size ≤ 1099511627776) (ha : a ≤ text.size) (hz : w.heap.size + 1 < wx.heap.size) (hb3 : Below wx.heap.size wx w3) (hM : Mid w wx text plan most a v)
    (hF : Rdr.Frame (fun k => w.heap.size + 2 ≤ k ∧ k ≠ gp) (w.heap.size + 1) w3 w4)
    (hrep4 : Rep (feed (feed (newM plan (m0 most)) ((numsOf text).take a)).1 (numsOf (text.extract a text.size))).1 w4 (w.heap.size + 1) w.heap.size (fun k => w.heap.size + 2 ≤ k ∧ k ≠ gp))
    (hrow4 : Kd.R k55 55 w4 w.heap.size (fun _ => True) v (feed (newM plan (m0 most)) ((numsOf text).take a)).2)
    (hg : w4.grownBy w5 v.ownBlock) (hbel5 : Below w.heap.size w w5)
    (hrow5 : Kd.R k55 55 w5 w.heap.size (fun _ => True) v1 ((feed (newM plan (m0 most)) ((numsOf text).take a)).2 ++ (feed (feed (newM plan (m0 most)) ((numsOf text).take a)).1 (numsOf (text.extract a text.size))).2)) :
    Mid w w5 text plan most text.size v1 := by
  obtain ⟨c, hc⟩ := Nat.le.dest ha
  have := Mid.step (text := text) (plan := plan) (most := most) (a := a) (c := c) (gp := gp) (v1 := v1) (by omega) hF (hM.bel.trans (hb3.mono (by omega))) ((hb3.block _ (by omega)).trans hM.flt) (by rw [hc]; exact hrep4) hrow4 hg hbel5 (by rw [hc]; exact hrow5)
  rw [hc] at this
  exact this
theorem close_taken (p : Ps) : (close p).taken = p.taken := by
  unfold close
  split
  · rfl
  · split <;> rfl
set_option maxHeartbeats 2000000 in
set_option maxRecDepth 100000 in
theorem taken_calls (r : Rd) (w : World) (b : Nat) (h : r.At w b) :
    Calls Try.prog 32 #[.pointer (some ⟨b, 0, none⟩)] w fun e w' => e = .returned (.int .i64 r.taken) ∧ w' = w := by
  have c0 := h.c0
  clear h
  obtain ⟨taken, code, place, shut, plan, most, item, start, state, num, need, v⟩ := r
  simp only at c0
  go_enter Try.func32, Try.ntmps32
  go_wp2
  go_ret
  exact ⟨rfl, rfl⟩
theorem Mid.sizes {w wx : World} {text plan : ByteArray} {most : Int} {a : Nat} {v : Value} (h : Mid w wx text plan most a v) : w.heap.size + 1 < wx.heap.size := by
  obtain ⟨u, hA, _⟩ := h.rep
  exact hA.lt
theorem cut_size (s : ByteArray) (a : Nat) (Z : Int) : (s.extract a Z.toNat).size ≤ s.size := by rw [ByteArray.size_extract]; omega
theorem cut_len (s : ByteArray) (a : Nat) (Z : Int) : (numsOf (s.extract a Z.toNat)).length = min Z.toNat s.size - a := by rw [numsOf_len, ByteArray.size_extract]
theorem take_range (s : ByteArray) (a : Nat) : ∀ x ∈ (numsOf s).take a, 0 ≤ x ∧ x < 256 := fun x hx => numsOf_range s x (List.mem_of_mem_take hx)
theorem bel_fed {w wx w3 w4 : World} {text plan : ByteArray} {most : Int} {a gp : Nat} {v : Value} (h : Mid w wx text plan most a v) (hb : Below wx.heap.size wx w3) (hF : Rdr.Frame (fun k => w.heap.size + 2 ≤ k ∧ k ≠ gp) (w.heap.size + 1) w3 w4) : Below w.heap.size w w4 := by
  have hs := h.sizes
  have h3 := hb.size
  exact (h.bel.trans (hb.mono (by omega))).trans (frame_below hF (by omega) (by omega) (fun k hk => by omega))
set_option maxHeartbeats 8000000 in
set_option maxRecDepth 100000 in
theorem depotlaw03_fedIn.calls (a0 : ByteArray) (a1 : ByteArray) (a2 : Int) (A3 : Option Addr) (c3 : Nat) (l3 : List Int) (r1 : List (S55)) (r2 : Int) (r3 : Int) (r4 : Int) (w : World) (hr3 : Kd.C (Kd.int .i64) w A3 l3.length l3) (hc3 : l3.length ≤ c3) (h : depotlaw03_fedIn.f a0 a1 a2 l3 = some (r1, r2, r3, r4)) :
    Calls Try.prog 30 #[.string a0, .string a1, .int .i64 a2, .slice A3 l3.length c3] w fun e w' => ∃ v0_ : Value, e = .returned (.tuple #[v0_, .agg #[.int .i64 r2, .int .i64 r3], .int .i64 r4]) ∧ Kd.R k55 55 w' w.heap.size (fun _ => True) v0_ r1 ∧ Below w.heap.size w w' := by
  unfold depotlaw03_fedIn.f at h
  by_cases hsz : a0.size ≤ 1099511627776 ∧ a1.size ≤ 1099511627776 ∧ a2 ≤ 9223372036854775807
  case neg => rw [if_neg hsz] at h; exact absurd h (by simp)
  rw [if_pos hsz] at h
  obtain ⟨s0, s1, s2⟩ := hsz
  simp only [Option.some.injEq, Prod.mk.injEq] at h
  obtain ⟨h1, h2, h3, h4⟩ := h
  have E1 := Aside0.mk h1
  have E2 := Aside0.mk h2
  have E3 := Aside0.mk h3
  have E4 := Aside0.mk h4
  have HR3 := Aside0.mk hr3
  have hl3 := hr3.2.1
  have hm0 : 0 ≤ m0 a2 ∧ m0 a2 ≤ 9223372036854775807 := by unfold m0; split <;> omega
  obtain ⟨hwf, htx, htk⟩ := newM_ok a1 (m0 a2) (by omega) hm0.1 hm0.2
  have HWF := Aside0.mk hwf
  have HTX := Aside0.mk htx
  have HTK := Aside0.mk htk
  clear hwf htx htk hm0 h1 h2 h3 h4 hr3
  go_enter Try.func30, Try.ntmps30
  go_wp2_with (first | (go_at_call 27; refine (new_calls a1 a2 _ (by omega)).mono ?_; rintro e w2 ⟨rfl, hA, hB⟩; rw [size_alloc] at hA hB ⊢; have HA := Aside0.mk hA; have HB := Aside0.mk hB; clear hA hB))
  have HM0 := Aside0.mk (Mid.start (text := a0) HTX.out HA.out HB.out)
  clear HA HB
  go_loopg [12, 13, 15, 25] l3.length (fun g v12 v13 v15 v25 wx => ∃ (i : Nat) (a : Nat), i + g = l3.length ∧ a ≤ a0.size ∧ v13 = .int .i64 (a : Int) ∧ v25 = .int .i64 (i : Int) ∧ Aside0 (Mid w wx a0 a1 a2 a v12))
  case atStart => exact ⟨0, 0, by omega, Nat.zero_le _, rfl, rfl, HM0⟩
  case round =>
    obtain ⟨i, a, hig, ha, rfl, rfl, HM⟩ := hrel
    cases gk with
    | zero =>
      obtain rfl : i = l3.length := by omega
      have d1 : decide ((l3.length : Int) < (l3.length : Int)) = false := decide_eq_false (by omega)
      have z0 : ((a : Int) ≤ (a0.size : Int)) = True := eq_true (by omega)
      have z1 : decide ((a : Int) ≤ (a0.size : Int)) = true := decide_eq_true (by omega)
      have z4 : (0 ≤ (a : Int)) = True := eq_true (by omega)
      have HS := Aside0.mk s0
      have HA' := Aside0.mk ha
      clear s0 ha
      go_wp2_with (first | ((with_reducible refine gate_dst (N := 63) rfl ?_); refine T_conv (w0 := wr) wr.heap.size 5 rfl (N := 63) rfl 9 48 _ rfl (a0.extract a a0.size) rfl Try.underlying9 Try.underlying48 Try.underlying5 (by have := HS.out; have := cut_size' a0 a; simp only [maxLen]; omega) (Below.refl _ _) (Nat.le_refl _) ?_; intro vc w3 HO hb3; obtain ⟨gp, cp, rfl, hg1, hg2, hg3, hrd⟩ := OwnT.slice HO; have HRD := Aside0.mk hrd; have HG1 := Aside0.mk hg1; have HG2 := Aside0.mk hg2; have HG3 := Aside0.mk hg3; have HB3 := Aside0.mk hb3; have HREP := Aside0.mk (HM.out.rep.apart hg1 hb3); have HSZ := Aside0.mk (HM.out.sizes); have hs3 := hb3.size; have HS3 := Aside0.mk hs3; clear hrd hg1 hg2 hg3 hb3 hs3 HO) | (go_at_call 28; refine (feed_calls (feed (newM a1 (m0 a2)) ((numsOf a0).take a)).1 w3 (w.heap.size + 1) w.heap.size (fun k => w.heap.size + 2 ≤ k ∧ k ≠ gp) HREP.out (feed_wf _ _ HWF.out (take_range a0 a)) (by omega) (fun k hk => ⟨by have := HSZ.out; have := HS3.out; omega, by have := HG2.out; omega⟩) (by have := HSZ.out; have := HS3.out; omega) _ _ _ (numsOf (a0.extract a a0.size)) HRD.out HG3.out (fun ad had => by injection had with had; subst had; exact ⟨by have := HG1.out; have := HSZ.out; show gp ≠ _; omega, HG2.out, fun q => q.2 rfl⟩) (numsOf_range _) (by have := HTK.out; have := feed_taken ((numsOf a0).take a) (newM a1 (m0 a2)); have := cut_len' a0 a; have := HS.out; rw [List.length_take, numsOf_len] at *; have := HA'.out; omega) (by have := HTK.out; have := feed_taken ((numsOf a0).take a) (newM a1 (m0 a2)); omega)).mono ?_; rintro e w4 ⟨vf, rfl, hOut, hRep4, hF4⟩; obtain ⟨A5, c5, rfl, hc5, hC5⟩ := Kd.R_reads hOut; have HR4 := Aside0.mk hRep4; have HF4 := Aside0.mk hF4; have HC5 := Aside0.mk hC5; have HROW4 := Aside0.mk (hF4.row HREP.out (Kd.R_below HM.out.row HB3.out)); clear hRep4 hF4 hC5 hOut) | ((with_reducible refine gate_builtin (b := .append) (xs := #[.tmp 58, .tmp 64]) rfl ?_); at_builtin; refine Kd.R_append_rows k55 (w0 := w) w.heap.size rfl (.tmp 58) (.tmp 64) 28 55 (.agg #[(.bool false), (.int .u64 0), (.string ⟨#[]⟩)]) 32 rfl Try.underlying28 info55 rfl (by decide) (by omega) u12 _ _ _ _ _ (fun _ => True) (fun _ => False) rfl rfl HROW4.out HC5.out (fun _ _ h => h) (fun _ h => h.elim) (fun _ _ => trivial) ?aB ?aS ?aL ?_; (case aB => exact bel_fed HM.out HB3.out HF4.out); (case aS => exact (bel_fed HM.out HB3.out HF4.out).size); (case aL => have := fed_len a1 (m0 a2) ((numsOf a0).take a) (numsOf (a0.extract a a0.size)); omega); intro v1 w5 ho hb hg hat; have HM5 := Aside0.mk hg; have HO5 := Aside0.mk ho; have HB5 := Aside0.mk hb; clear ho hb hg hat) | (go_at_call 29; have HM9 := Aside0.mk (Mid.last HS.out HA'.out HSZ.out HB3.out HM.out HF4.out HR4.out HROW4.out HM5.out HB5.out HO5.out); refine (close_ps (fedAll a0 a1 a2).1 w5 (w.heap.size + 1) w.heap.size (fun k => w.heap.size + 2 ≤ k) HM9.out.rep' (by omega)).mono ?_; rintro e w6 ⟨rfl, hRep6, hF6⟩; rw [E2.out, E3.out]; have hs5 := HM9.out.sizes; have HS6 := Aside0.mk hF6.size; have HR6 := Aside0.mk hRep6; have HROW6 := Aside0.mk (hF6.row HM9.out.rep' HM9.out.row'); have HFLT6 := Aside0.mk (fault_kept hF6 HM9.out.flt (by omega)); have HBL6 := Aside0.mk (HM9.out.bel.trans (frame_below hF6 (by omega) (by omega) (fun k hk => by omega))); clear hRep6 hF6))
      have hs5 := HM9.out.sizes
      have hl6 : w5.heap.size ≤ w6.heap.size := HS6.out
      have HA7 : (w6.alloc (.cells #[.int .i64 r2, .int .i64 r3] 31)).heap[w6.heap.size]? = some (.cells #[.int .i64 r2, .int .i64 r3] 31 (0, 0)) := heap_alloc_new w6 _
      have HB7 : (w6.alloc (.cells #[.int .i64 r2, .int .i64 r3] 31)).heap[w.heap.size]? = some (.cells #[.int .i64 0, .int .i64 0] 31 (0, 0)) := (Below.heap_alloc _ _ _ (by omega)).trans HFLT6.out
      have HC7 : Below w.heap.size w (w6.alloc (.cells #[.int .i64 r2, .int .i64 r3] 31)) := HBL6.out.alloc (by omega) _
      have HD7 := Kd.R_alloc HROW6.out (.cells #[.int .i64 r2, .int .i64 r3] 31)
      have HE7 := HR6.out.below (below_alloc (Below.refl _ _) (.cells #[.int .i64 r2, .int .i64 r3] 31))
      generalize w6.alloc (.cells #[.int .i64 r2, .int .i64 r3] 31) = w7 at HA7 HB7 HC7 HD7 HE7 ⊢
      refine wp_region_still_tail 7 (by kernel_rfl) (by kernel_rfl) ?_
      change wpStill _ _ (World.drew w7) (fun a' => wpList _ _ _ _ a' (World.drew w7)) _ _
      have HA8 : w7.drew.heap[w6.heap.size]? = some (.cells #[.int .i64 r2, .int .i64 r3] 31 (0, 0)) := HA7
      have HB8 : w7.drew.heap[w.heap.size]? = some (.cells #[.int .i64 0, .int .i64 0] 31 (0, 0)) := HB7
      have HC8 : Below w.heap.size w w7.drew := HC7.drew
      have HD8 := Kd.R_drew HD7
      have HE8 := HE7.below (below_drew (Below.refl _ _))
      clear HA7 HB7 HC7 HD7 HE7
      generalize World.drew w7 = w8 at HA8 HB8 HC8 HD8 HE8 ⊢
      have x0 := cell3 HA8 0
      have x1 := cell3 HA8 1
      have z0 := cell3 HB8 0
      have z1 := cell3 HB8 1
      have y0 := fro3 HB8 0
      have y1 := fro3 HB8 1
      replace HA8 := Aside0.mk HA8
      replace HB8 := Aside0.mk HB8
      replace HD8 := Aside0.mk HD8
      obtain ⟨vt, HT8, _⟩ := HE8
      have HT8 := Aside0.mk HT8
      simp only [List.take_succ_cons, List.take_zero, List.drop_succ_cons, List.drop_zero]
      repeat still_step
      still_call (taken_calls ((close (fedAll a0 a1 a2).1).rd vt) w8 (w.heap.size + 1) HT8.out)
      repeat still_step
      refine wpStill_nil ?_
      change wpList _ _ _ _ _ w8
      go_wp2
      have htk : ((close (fedAll a0 a1 a2).1).rd vt).taken = r4 := (close_taken _).trans E4.out
      refine bodyPost_ret (results_tct rfl _ _ w.heap.size 31 _ (0, 0) _ rfl (set2 HB8.out) Try.underlying31 rfl rfl) rfl ⟨v1, by rw [← htk]; rfl, ?_, ?_⟩
      · have hrow := out_set (i := 1) (u := .int .i64 r3) (out_set (i := 0) (u := .int .i64 r2) HD8.out HB8.out (by decide)) (set1 HB8.out) (by decide)
        rw [E1.out] at hrow
        exact hrow
      · exact (HC8.setCell (Nat.le_refl _) _).setCell (Nat.le_refl _) _
    | succ g =>
      have d1 : decide ((i : Int) < (l3.length : Int)) = true := decide_eq_true (by omega)
      obtain ⟨ad1, e1, hx1⟩ := Kd.at_int HR3.out (i : Int) (by omega) (by omega)
      cases e1
      rw [Int.toNat_natCast] at hx1
      replace hx1 := (HM.out.bel.cell (World.block_lt_of_cell? w _ hx1)).trans hx1
      obtain ⟨c0, hc0⟩ : ∃ c0, rd l3 (i : Int) = c0 := ⟨_, rfl⟩
      rw [hc0] at hx1
      clear hc0
      by_cases hneg : c0 < 0
      · have d2 : decide (c0 < 0) = true := decide_eq_true hneg
        obtain ⟨c, hc⟩ : ∃ c : Nat, c = a0.size - a := ⟨_, rfl⟩
        obtain ⟨Y, hY⟩ : ∃ Y : Int, wrap64 ((a0.size : Int) - (a : Int)) = Y := ⟨_, rfl⟩
        obtain ⟨Z, hZ⟩ : ∃ Z : Int, wrap64 ((a : Int) + Y) = Z := ⟨_, rfl⟩
        have HY := Aside0.mk (show Y = (c : Int) by rw [← hY, Bytes.w64 (by omega) (by omega)]; omega)
        have HZ := Aside0.mk (show Z = ((a + c : Nat) : Int) by rw [← hZ, HY.out, Bytes.w64 (by omega) (by omega)]; omega)
        have z0 : ((a : Int) ≤ Z) = True := eq_true (by rw [HZ.out]; omega)
        have z1 : decide ((a : Int) ≤ Z) = true := decide_eq_true (by rw [HZ.out]; omega)
        have z2 : (Z ≤ (a0.size : Int)) = True := eq_true (by rw [HZ.out]; omega)
        have z3 : decide (Z ≤ (a0.size : Int)) = true := decide_eq_true (by rw [HZ.out]; omega)
        have z4 : (0 ≤ (a : Int)) = True := eq_true (by omega)
        have HS := Aside0.mk s0
        have HA' := Aside0.mk ha
        have HC := Aside0.mk hc
        clear hneg s0 ha hc
        go_wp2_with (first | ((with_reducible refine gate_dst (N := 51) rfl ?_); refine T_conv (w0 := wr) wr.heap.size 5 rfl (N := 51) rfl 9 48 _ rfl (a0.extract a Z.toNat) rfl Try.underlying9 Try.underlying48 Try.underlying5 (by have := HS.out; have := cut_size a0 a Z; simp only [maxLen]; omega) (Below.refl _ _) (Nat.le_refl _) ?_; intro vc w3 HO hb3; obtain ⟨gp, cp, rfl, hg1, hg2, hg3, hrd⟩ := OwnT.slice HO; have HRD := Aside0.mk hrd; have HG1 := Aside0.mk hg1; have HG2 := Aside0.mk hg2; have HG3 := Aside0.mk hg3; have HB3 := Aside0.mk hb3; have HREP := Aside0.mk (HM.out.rep.apart hg1 hb3); have HSZ := Aside0.mk (HM.out.sizes); have hs3 := hb3.size; have HS3 := Aside0.mk hs3; clear hrd hg1 hg2 hg3 hb3 hs3 HO) | (go_at_call 28; refine (feed_calls (feed (newM a1 (m0 a2)) ((numsOf a0).take a)).1 w3 (w.heap.size + 1) w.heap.size (fun k => w.heap.size + 2 ≤ k ∧ k ≠ gp) HREP.out (feed_wf _ _ HWF.out (take_range a0 a)) (by omega) (fun k hk => ⟨by have := HSZ.out; have := HS3.out; omega, by have := HG2.out; omega⟩) (by have := HSZ.out; have := HS3.out; omega) _ _ _ (numsOf (a0.extract a Z.toNat)) HRD.out HG3.out (fun ad had => by injection had with had; subst had; exact ⟨by have := HG1.out; have := HSZ.out; show gp ≠ _; omega, HG2.out, fun q => q.2 rfl⟩) (numsOf_range _) (by have := HTK.out; have := feed_taken ((numsOf a0).take a) (newM a1 (m0 a2)); have := cut_len a0 a Z; have := HS.out; rw [List.length_take, numsOf_len] at *; have := HZ.out; have := HC.out; have := HA'.out; omega) (by have := HTK.out; have := feed_taken ((numsOf a0).take a) (newM a1 (m0 a2)); omega)).mono ?_; rintro e w4 ⟨vf, rfl, hOut, hRep4, hF4⟩; obtain ⟨A5, c5, rfl, hc5, hC5⟩ := Kd.R_reads hOut; have HR4 := Aside0.mk hRep4; have HF4 := Aside0.mk hF4; have HC5 := Aside0.mk hC5; have HROW4 := Aside0.mk (hF4.row HREP.out (Kd.R_below HM.out.row HB3.out)); clear hRep4 hF4 hC5 hOut) | ((with_reducible refine gate_builtin (b := .append) (xs := #[.tmp 43, .tmp 52]) rfl ?_); at_builtin; refine Kd.R_append_rows k55 (w0 := w) w.heap.size rfl (.tmp 43) (.tmp 52) 28 55 (.agg #[(.bool false), (.int .u64 0), (.string ⟨#[]⟩)]) 32 rfl Try.underlying28 info55 rfl (by decide) (by omega) u12 _ _ _ _ _ (fun _ => True) (fun _ => False) rfl rfl HROW4.out HC5.out (fun _ _ h => h) (fun _ h => h.elim) (fun _ _ => trivial) ?aB ?aS ?aL ?_; (case aB => exact bel_fed HM.out HB3.out HF4.out); (case aS => exact (bel_fed HM.out HB3.out HF4.out).size); (case aL => have := fed_len a1 (m0 a2) ((numsOf a0).take a) (numsOf (a0.extract a Z.toNat)); omega); intro v1 w5 ho hb hg hat; have HM5 := Aside0.mk hg; have HO5 := Aside0.mk ho; have HB5 := Aside0.mk hb; clear ho hb hg hat))
        go_roundg g
        case measure => omega
        case rel => exact ⟨i + 1, a + c, by omega, by have := HC.out; have := HA'.out; omega, by rw [hZ, HZ.out], by go_num, ⟨Mid.step (text := a0) (plan := a1) (most := a2) (a := a) (c := c) (gp := gp) (by have := HC.out; have := HA'.out; omega) HF4.out (HM.out.bel.trans (HB3.out.mono (by have := HSZ.out; omega))) ((HB3.out.block _ (by have := HSZ.out; omega)).trans HM.out.flt) (by have e := HR4.out; rw [HZ.out, Int.toNat_natCast] at e; exact e) HROW4.out HM5.out HB5.out (by have e := HO5.out; rw [HZ.out, Int.toNat_natCast] at e; exact e)⟩⟩
      · skip
        have d2 : decide (c0 < 0) = false := decide_eq_false hneg
        obtain ⟨Y, hY⟩ : ∃ Y : Int, wrap64 ((a0.size : Int) - (a : Int)) = Y := ⟨_, rfl⟩
        have hYv : Y = (a0.size : Int) - (a : Int) := by rw [← hY, Bytes.w64 (by omega) (by omega)]
        by_cases hgt : c0 > Y
        · have d3 : decide (Y < c0) = true := decide_eq_true hgt
          obtain ⟨c, hc⟩ : ∃ c : Nat, c = a0.size - a := ⟨_, rfl⟩
          obtain ⟨Z, hZ⟩ : ∃ Z : Int, wrap64 ((a : Int) + Y) = Z := ⟨_, rfl⟩
          have HY := Aside0.mk (show Y = (c : Int) by rw [hYv]; omega)
          have HZ := Aside0.mk (show Z = ((a + c : Nat) : Int) by rw [← hZ, HY.out, Bytes.w64 (by omega) (by omega)]; omega)
          have z0 : ((a : Int) ≤ Z) = True := eq_true (by rw [HZ.out]; omega)
          have z1 : decide ((a : Int) ≤ Z) = true := decide_eq_true (by rw [HZ.out]; omega)
          have z2 : (Z ≤ (a0.size : Int)) = True := eq_true (by rw [HZ.out]; omega)
          have z3 : decide (Z ≤ (a0.size : Int)) = true := decide_eq_true (by rw [HZ.out]; omega)
          have z4 : (0 ≤ (a : Int)) = True := eq_true (by omega)
          have HS := Aside0.mk s0
          have HA' := Aside0.mk ha
          have HC := Aside0.mk hc
          clear hneg s0 ha hc hgt hYv
          go_wp2_with (first | ((with_reducible refine gate_dst (N := 51) rfl ?_); refine T_conv (w0 := wr) wr.heap.size 5 rfl (N := 51) rfl 9 48 _ rfl (a0.extract a Z.toNat) rfl Try.underlying9 Try.underlying48 Try.underlying5 (by have := HS.out; have := cut_size a0 a Z; simp only [maxLen]; omega) (Below.refl _ _) (Nat.le_refl _) ?_; intro vc w3 HO hb3; obtain ⟨gp, cp, rfl, hg1, hg2, hg3, hrd⟩ := OwnT.slice HO; have HRD := Aside0.mk hrd; have HG1 := Aside0.mk hg1; have HG2 := Aside0.mk hg2; have HG3 := Aside0.mk hg3; have HB3 := Aside0.mk hb3; have HREP := Aside0.mk (HM.out.rep.apart hg1 hb3); have HSZ := Aside0.mk (HM.out.sizes); have hs3 := hb3.size; have HS3 := Aside0.mk hs3; clear hrd hg1 hg2 hg3 hb3 hs3 HO) | (go_at_call 28; refine (feed_calls (feed (newM a1 (m0 a2)) ((numsOf a0).take a)).1 w3 (w.heap.size + 1) w.heap.size (fun k => w.heap.size + 2 ≤ k ∧ k ≠ gp) HREP.out (feed_wf _ _ HWF.out (take_range a0 a)) (by omega) (fun k hk => ⟨by have := HSZ.out; have := HS3.out; omega, by have := HG2.out; omega⟩) (by have := HSZ.out; have := HS3.out; omega) _ _ _ (numsOf (a0.extract a Z.toNat)) HRD.out HG3.out (fun ad had => by injection had with had; subst had; exact ⟨by have := HG1.out; have := HSZ.out; show gp ≠ _; omega, HG2.out, fun q => q.2 rfl⟩) (numsOf_range _) (by have := HTK.out; have := feed_taken ((numsOf a0).take a) (newM a1 (m0 a2)); have := cut_len a0 a Z; have := HS.out; rw [List.length_take, numsOf_len] at *; have := HZ.out; have := HC.out; have := HA'.out; omega) (by have := HTK.out; have := feed_taken ((numsOf a0).take a) (newM a1 (m0 a2)); omega)).mono ?_; rintro e w4 ⟨vf, rfl, hOut, hRep4, hF4⟩; obtain ⟨A5, c5, rfl, hc5, hC5⟩ := Kd.R_reads hOut; have HR4 := Aside0.mk hRep4; have HF4 := Aside0.mk hF4; have HC5 := Aside0.mk hC5; have HROW4 := Aside0.mk (hF4.row HREP.out (Kd.R_below HM.out.row HB3.out)); clear hRep4 hF4 hC5 hOut) | ((with_reducible refine gate_builtin (b := .append) (xs := #[.tmp 43, .tmp 52]) rfl ?_); at_builtin; refine Kd.R_append_rows k55 (w0 := w) w.heap.size rfl (.tmp 43) (.tmp 52) 28 55 (.agg #[(.bool false), (.int .u64 0), (.string ⟨#[]⟩)]) 32 rfl Try.underlying28 info55 rfl (by decide) (by omega) u12 _ _ _ _ _ (fun _ => True) (fun _ => False) rfl rfl HROW4.out HC5.out (fun _ _ h => h) (fun _ h => h.elim) (fun _ _ => trivial) ?aB ?aS ?aL ?_; (case aB => exact bel_fed HM.out HB3.out HF4.out); (case aS => exact (bel_fed HM.out HB3.out HF4.out).size); (case aL => have := fed_len a1 (m0 a2) ((numsOf a0).take a) (numsOf (a0.extract a Z.toNat)); omega); intro v1 w5 ho hb hg hat; have HM5 := Aside0.mk hg; have HO5 := Aside0.mk ho; have HB5 := Aside0.mk hb; clear ho hb hg hat))
          go_roundg g
          case measure => omega
          case rel => exact ⟨i + 1, a + c, by omega, by have := HC.out; have := HA'.out; omega, by rw [hZ, HZ.out], by go_num, ⟨Mid.step (text := a0) (plan := a1) (most := a2) (a := a) (c := c) (gp := gp) (by have := HC.out; have := HA'.out; omega) HF4.out (HM.out.bel.trans (HB3.out.mono (by have := HSZ.out; omega))) ((HB3.out.block _ (by have := HSZ.out; omega)).trans HM.out.flt) (by have e := HR4.out; rw [HZ.out, Int.toNat_natCast] at e; exact e) HROW4.out HM5.out HB5.out (by have e := HO5.out; rw [HZ.out, Int.toNat_natCast] at e; exact e)⟩⟩
        · have d3 : decide (Y < c0) = false := decide_eq_false hgt
          obtain ⟨c, hc1⟩ : ∃ c : Nat, c0 = (c : Int) := ⟨c0.toNat, by omega⟩
          have hc : c ≤ a0.size - a := by omega
          obtain ⟨Z, hZ⟩ : ∃ Z : Int, wrap64 ((a : Int) + c0) = Z := ⟨_, rfl⟩
          have HZ := Aside0.mk (show Z = ((a + c : Nat) : Int) by rw [← hZ, hc1, Bytes.w64 (by omega) (by omega)]; omega)
          have z0 : ((a : Int) ≤ Z) = True := eq_true (by rw [HZ.out]; omega)
          have z1 : decide ((a : Int) ≤ Z) = true := decide_eq_true (by rw [HZ.out]; omega)
          have z2 : (Z ≤ (a0.size : Int)) = True := eq_true (by rw [HZ.out]; omega)
          have z3 : decide (Z ≤ (a0.size : Int)) = true := decide_eq_true (by rw [HZ.out]; omega)
          have z4 : (0 ≤ (a : Int)) = True := eq_true (by omega)
          have HC0 := Aside0.mk hc1
          have HS := Aside0.mk s0
          have HA' := Aside0.mk ha
          have HC := Aside0.mk hc
          clear hneg s0 ha hc hgt hYv hc1
          go_wp2_with (first | ((with_reducible refine gate_dst (N := 51) rfl ?_); refine T_conv (w0 := wr) wr.heap.size 5 rfl (N := 51) rfl 9 48 _ rfl (a0.extract a Z.toNat) rfl Try.underlying9 Try.underlying48 Try.underlying5 (by have := HS.out; have := cut_size a0 a Z; simp only [maxLen]; omega) (Below.refl _ _) (Nat.le_refl _) ?_; intro vc w3 HO hb3; obtain ⟨gp, cp, rfl, hg1, hg2, hg3, hrd⟩ := OwnT.slice HO; have HRD := Aside0.mk hrd; have HG1 := Aside0.mk hg1; have HG2 := Aside0.mk hg2; have HG3 := Aside0.mk hg3; have HB3 := Aside0.mk hb3; have HREP := Aside0.mk (HM.out.rep.apart hg1 hb3); have HSZ := Aside0.mk (HM.out.sizes); have hs3 := hb3.size; have HS3 := Aside0.mk hs3; clear hrd hg1 hg2 hg3 hb3 hs3 HO) | (go_at_call 28; refine (feed_calls (feed (newM a1 (m0 a2)) ((numsOf a0).take a)).1 w3 (w.heap.size + 1) w.heap.size (fun k => w.heap.size + 2 ≤ k ∧ k ≠ gp) HREP.out (feed_wf _ _ HWF.out (take_range a0 a)) (by omega) (fun k hk => ⟨by have := HSZ.out; have := HS3.out; omega, by have := HG2.out; omega⟩) (by have := HSZ.out; have := HS3.out; omega) _ _ _ (numsOf (a0.extract a Z.toNat)) HRD.out HG3.out (fun ad had => by injection had with had; subst had; exact ⟨by have := HG1.out; have := HSZ.out; show gp ≠ _; omega, HG2.out, fun q => q.2 rfl⟩) (numsOf_range _) (by have := HTK.out; have := feed_taken ((numsOf a0).take a) (newM a1 (m0 a2)); have := cut_len a0 a Z; have := HS.out; rw [List.length_take, numsOf_len] at *; have := HZ.out; have := HC.out; have := HA'.out; omega) (by have := HTK.out; have := feed_taken ((numsOf a0).take a) (newM a1 (m0 a2)); omega)).mono ?_; rintro e w4 ⟨vf, rfl, hOut, hRep4, hF4⟩; obtain ⟨A5, c5, rfl, hc5, hC5⟩ := Kd.R_reads hOut; have HR4 := Aside0.mk hRep4; have HF4 := Aside0.mk hF4; have HC5 := Aside0.mk hC5; have HROW4 := Aside0.mk (hF4.row HREP.out (Kd.R_below HM.out.row HB3.out)); clear hRep4 hF4 hC5 hOut) | ((with_reducible refine gate_builtin (b := .append) (xs := #[.tmp 43, .tmp 52]) rfl ?_); at_builtin; refine Kd.R_append_rows k55 (w0 := w) w.heap.size rfl (.tmp 43) (.tmp 52) 28 55 (.agg #[(.bool false), (.int .u64 0), (.string ⟨#[]⟩)]) 32 rfl Try.underlying28 info55 rfl (by decide) (by omega) u12 _ _ _ _ _ (fun _ => True) (fun _ => False) rfl rfl HROW4.out HC5.out (fun _ _ h => h) (fun _ h => h.elim) (fun _ _ => trivial) ?aB ?aS ?aL ?_; (case aB => exact bel_fed HM.out HB3.out HF4.out); (case aS => exact (bel_fed HM.out HB3.out HF4.out).size); (case aL => have := fed_len a1 (m0 a2) ((numsOf a0).take a) (numsOf (a0.extract a Z.toNat)); omega); intro v1 w5 ho hb hg hat; have HM5 := Aside0.mk hg; have HO5 := Aside0.mk ho; have HB5 := Aside0.mk hb; clear ho hb hg hat))
          go_roundg g
          case measure => omega
          case rel => exact ⟨i + 1, a + c, by omega, by have := HC.out; have := HA'.out; omega, by rw [hZ, HZ.out], by go_num, ⟨Mid.step (text := a0) (plan := a1) (most := a2) (a := a) (c := c) (gp := gp) (by have := HC.out; have := HA'.out; omega) HF4.out (HM.out.bel.trans (HB3.out.mono (by have := HSZ.out; omega))) ((HB3.out.block _ (by have := HSZ.out; omega)).trans HM.out.flt) (by have e := HR4.out; rw [HZ.out, Int.toNat_natCast] at e; exact e) HROW4.out HM5.out HB5.out (by have e := HO5.out; rw [HZ.out, Int.toNat_natCast] at e; exact e)⟩⟩
end Go.Proofs.Ytnilogameaaooaa.Q
/- What has been fed in, plain. -/
set_option linter.unusedVariables false
set_option linter.unusedSimpArgs false
namespace Go.Proofs.Ytnilogameaaooaa.Pure
open Go.RowKit Go.Proofs.Ytnilogameaaooaa.Q Go.Proofs.Ytnilogameaaooaa.Rdr Go.Proofs.Ytnilogameaaooaa.Tail Go.Proofs.YtnilogameaaooaaW.PrintWords Go.Proofs.YtnilogameaaooaaW.PrintLast Go.Proofs.YtnilogameaaooaaW.PrintMore Go.Proofs.Ytnilogameaaooaa.Bytes Go.Proofs.Ytnilogameaaooaa.Evs

theorem close_got (text plan : ByteArray) (most : Int) (h : most ≤ 9223372036854775807) : (fedAll text plan most).2 = (got text plan most).1 ∧ (close (fedAll text plan most).1).code = (shutR (got text plan most) plan.size).1 ∧ (close (fedAll text plan most).1).place = (shutR (got text plan most) plan.size).2 := by
  have hA := feed_got text plan most h
  obtain ⟨n1, n2⟩ := newM_item plan (m0 most)
  unfold fedAll
  generalize feed (newM plan (m0 most)) (numsOf text) = F at hA ⊢
  obtain ⟨a1, a2, a3, a4, a5, a6, a7⟩ := hA
  rw [n1] at a5
  rw [n2] at a6
  refine ⟨a1, ?_⟩
  unfold close shutR Ps.stopped
  rw [a7, a6, a5, a2, a4]
  by_cases hc : (got text plan most).2.1 = 0
  · rw [if_neg (by rw [hc]; simp)]
    by_cases hl : ((got text plan most).1.length : Int) < (plan.size : Int)
    · rw [if_pos (by omega), if_pos ⟨hc, hl⟩]
      exact ⟨rfl, rfl⟩
    · rw [if_neg (by omega), if_neg (fun q => hl q.2)]
      exact ⟨rfl, a3⟩
  · rw [if_pos (by simp [hc]), if_neg (fun q => hc q.1)]
    exact ⟨rfl, a3⟩
theorem fed_nil (plan : ByteArray) (most : Int) : fedAll (⟨#[]⟩ : ByteArray) plan most = (newM plan (m0 most), []) := rfl
theorem fed_app (T U plan : ByteArray) (most : Int) : (fedAll (T ++ U) plan most).1 = (feed (fedAll T plan most).1 (numsOf U)).1 ∧ (fedAll (T ++ U) plan most).2 = (fedAll T plan most).2 ++ (feed (fedAll T plan most).1 (numsOf U)).2 := by
  unfold fedAll
  rw [nums_app, feed_app]
  exact ⟨rfl, rfl⟩
theorem close_shut (p : Ps) : (close p).shut = true := by
  unfold close
  split
  · rfl
  · split <;> rfl
theorem close_stopped (p : Ps) : (close p).stopped = true := by unfold Ps.stopped; rw [close_shut]; rfl
theorem close_close (p : Ps) : close (close p) = close p := by
  have h := close_shut p
  have h2 := close_stopped p
  generalize close p = q at h h2 ⊢
  unfold close
  rw [if_pos h2]
  obtain ⟨a1, a2, a3, a4, a5, a6, a7, a8, a9, a10, a11, a12⟩ := q
  simp only at h
  rw [h]
theorem feed_shut (p : Ps) (l : List Int) : feed (close p) l = (close p, []) := feed_stop (close_stopped p) l
theorem read_fed (T plan : ByteArray) (most : Int) (h1 : T.size ≤ 1099511627776) (h2 : plan.size ≤ 1099511627776) (h : most ≤ 9223372036854775807) :
    Ev (fun k => depotref03_Read.f k T plan most) ((fedAll T plan most).2.map to78, (fedAll T plan most).1.code, (fedAll T plan most).1.place, (fedAll T plan most).1.taken) := by
  have hA := feed_got T plan most h
  have := read_got T plan most h1 h2 h
  unfold fedAll
  rw [hA.items, hA.code, hA.place, hA.taken]
  exact this
theorem closed_fed (T plan : ByteArray) (most : Int) (h1 : T.size ≤ 1099511627776) (h2 : plan.size ≤ 1099511627776) (h : most ≤ 9223372036854775807) :
    Ev (fun k => depotref03_Closed.f k T plan most) ((close (fedAll T plan most).1).code, (close (fedAll T plan most).1).place) := by
  obtain ⟨_, g2, g3⟩ := close_got T plan most h
  rw [g2, g3]
  exact closed_got T plan most h1 h2 h
theorem fed_items (T plan : ByteArray) (most : Int) (h : most ≤ 9223372036854775807) : (fedAll T plan most).2.length ≤ plan.size := by
  rw [(close_got T plan most h).1]
  exact got_len T plan most
theorem newM_wf (plan : ByteArray) (most : Int) (h2 : plan.size ≤ 1099511627776) (h : most ≤ 9223372036854775807) : (newM plan (m0 most)).stopped = true ∨ Wf (newM plan (m0 most)) := by
  have hm := m0_range most h
  exact (newM_ok plan (m0 most) (by omega) hm.1 hm.2).1
theorem fed_wf (T plan : ByteArray) (most : Int) (h2 : plan.size ≤ 1099511627776) (h : most ≤ 9223372036854775807) : (fedAll T plan most).1.stopped = true ∨ Wf (fedAll T plan most).1 :=
  feed_wf _ _ (newM_wf plan most h2 h) (numsOf_range T)
theorem fed_taken (T plan : ByteArray) (most : Int) (h2 : plan.size ≤ 1099511627776) (h : most ≤ 9223372036854775807) : 0 ≤ (fedAll T plan most).1.taken ∧ (fedAll T plan most).1.taken ≤ (T.size : Int) := by
  have hm := m0_range most h
  have h3 := (newM_ok plan (m0 most) (by omega) hm.1 hm.2).2.2
  have := feed_taken (numsOf T) (newM plan (m0 most))
  rw [h3, numsOf_len] at this
  unfold fedAll
  omega
end Go.Proofs.Ytnilogameaaooaa.Pure
/- A framed text: its bytes, and what the reading makes of it. -/
set_option linter.unusedVariables false
set_option linter.unusedSimpArgs false
namespace Go.Proofs.Ytnilogameaaooaa.Pure
open Go.RowKit Go.Proofs.Ytnilogameaaooaa.Q Go.Proofs.Ytnilogameaaooaa.Rdr Go.Proofs.Ytnilogameaaooaa.Tail Go.Proofs.YtnilogameaaooaaW.PrintWords Go.Proofs.YtnilogameaaooaaW.PrintLast Go.Proofs.YtnilogameaaooaaW.PrintMore Go.Proofs.Ytnilogameaaooaa.Bytes Go.Proofs.Ytnilogameaaooaa.Evs

theorem nums_extract (s : ByteArray) (i j : Nat) : numsOf (s.extract i j) = ((numsOf s).drop i).take (j - i) := by
  have h : (s.extract i j).data.toList = (s.data.toList.drop i).take (j - i) := bs_extract s i j
  unfold numsOf
  rw [h, List.map_take, List.map_drop]
theorem val_le (k : Nat) : ∀ (n : Int), 0 ≤ n → val ((List.range k).map fun j => n / 2 ^ (8 * j) % 256) = n % 256 ^ k := by
  induction k with
  | zero => intro n hn; simp [val, Int.emod_one]
  | succ k ih =>
    intro n hn
    have hd : 0 ≤ n / 256 := by omega
    rw [List.range_succ_eq_map, List.map_cons, List.map_map]
    simp only [val]
    have e : ((fun j => n / 2 ^ (8 * j) % 256) ∘ Nat.succ) = fun j => (n / 256) / 2 ^ (8 * j) % 256 := by
      funext j
      simp only [Function.comp]
      rw [show 8 * Nat.succ j = 8 + 8 * j by omega, Int.pow_add, ← Int.ediv_ediv_of_nonneg (by decide)]
      rfl
    rw [e, ih (n / 256) hd]
    have h1 : n / 2 ^ (8 * 0) % 256 = n % 256 := by simp
    rw [h1]
    have h2 : n % (256 ^ (k + 1)) = n % 256 + 256 * (n / 256 % 256 ^ k) := by
      obtain ⟨m, rfl⟩ := Int.eq_ofNat_of_zero_le hn
      obtain ⟨P, hP⟩ : ∃ P : Nat, (256 : Int) ^ k = (P : Int) := ⟨256 ^ k, (Int.natCast_pow 256 k).symm⟩
      rw [Int.pow_succ, Int.mul_comm, hP]
      have := congrArg (fun x : Nat => (x : Int)) (@Nat.mod_mul 256 P m)
      simp only [Int.natCast_add, Int.natCast_mul, Int.natCast_emod, Int.natCast_ediv] at this
      exact this
    exact h2.symm
theorem val_le8 (n : Int) (h0 : 0 ≤ n) (h1 : n < 18446744073709551616) : val (le8 n) = n := by
  have := val_le 8 n h0
  unfold le8
  rw [this]
  have : (256 : Int) ^ 8 = 18446744073709551616 := by decide
  rw [this]
  exact Int.emod_eq_of_lt h0 h1
theorem le8_len (n : Int) : (le8 n).length = 8 := by simp [le8]
theorem firstNZ_at (b : Int) (hb : b ≠ 0) (r : List Int) : ∀ j : Nat, firstNZ (List.replicate j 0 ++ b :: r) = some j
  | 0 => by simp only [List.replicate_zero, List.nil_append, firstNZ]; rw [if_neg hb]
  | j + 1 => by
    rw [List.replicate_succ, List.cons_append]
    simp only [firstNZ]
    rw [if_pos trivial, firstNZ_at b hb r j]
    rfl
theorem frame8_range (s : ByteArray) : ∀ x ∈ frame8 s, 0 ≤ x ∧ x < 256 := by
  intro x hx
  unfold frame8 at hx
  rcases List.mem_append.1 hx with hx | hx
  · exact le8_range _ x hx
  · rcases List.mem_append.1 hx with hx | hx
    · exact numsOf_range s x hx
    · have := (List.mem_replicate.1 hx).2
      omega
theorem frame8_len (s : ByteArray) : (frame8 s).length = 8 + (s.size + padOf s.size) := by
  unfold frame8
  rw [List.length_append, le8_len, List.length_append, numsOf_len, List.length_replicate]
theorem parse_text (m : Int) (s : ByteArray) (l : List UInt8) (rest : List Int) (t : Int) (hs : s.size ≤ 1099511627776) (hm : (s.size : Int) ≤ m) :
    parse m (116 :: l) (frame8 s ++ rest) t = (⟨false, 0, s⟩ :: (parse m l rest (t + ((frame8 s).length : Int))).1, (parse m l rest (t + ((frame8 s).length : Int))).2) := by
  simp only [parse]
  have hv : List.take 8 (frame8 s ++ rest) = le8 (s.size : Int) := by
    unfold frame8
    rw [List.append_assoc, ← le8_len (s.size : Int), List.take_left]
  have hd : List.drop 8 (frame8 s ++ rest) = numsOf s ++ (List.replicate (padOf s.size) 0 ++ rest) := by
    unfold frame8
    rw [List.append_assoc, ← le8_len (s.size : Int), List.drop_left, List.append_assoc]
  have hn : List.drop s.size (numsOf s ++ (List.replicate (padOf s.size) 0 ++ rest)) = List.replicate (padOf s.size) 0 ++ rest := by
    conv => lhs; arg 1; rw [← numsOf_len s]
    rw [List.drop_left]
  have hk : List.take s.size (numsOf s ++ (List.replicate (padOf s.size) 0 ++ rest)) = numsOf s := by
    conv => lhs; arg 1; rw [← numsOf_len s]
    rw [List.take_left]
  have hp : List.take (padOf s.size) (List.replicate (padOf s.size) 0 ++ rest) = List.replicate (padOf s.size) (0 : Int) := by
    conv => lhs; arg 1; rw [← List.length_replicate (n := padOf s.size) (a := (0 : Int))]
    rw [List.take_left]
  have hq : List.drop (s.size + padOf s.size) (numsOf s ++ (List.replicate (padOf s.size) 0 ++ rest)) = rest := by
    rw [← List.drop_drop, hn]
    conv => lhs; arg 1; rw [← List.length_replicate (n := padOf s.size) (a := (0 : Int))]
    rw [List.drop_left]
  have hz : ∀ n, firstNZ (List.replicate n 0) = none := by
    intro n
    induction n with
    | zero => rfl
    | succ n ih => rw [List.replicate_succ]; simp only [firstNZ]; rw [if_pos trivial, ih]; rfl
  rw [hv, hd, val_le8 _ (by omega) (by omega), Int.toNat_natCast, hn, hk, hp, hq, hz]
  rw [if_neg (by rw [List.length_append, frame8_len]; omega), if_neg (by decide), if_neg (by omega)]
  simp only
  rw [if_neg (by rw [List.length_append, numsOf_len, List.length_append, List.length_replicate]; omega)]
  have hstr : strOfNums (numsOf s) = s := by
    apply bs_inj
    rw [bs_strOfNums, bs_numsOf]
  have ht : t + 8 + (s.size : Int) + (padOf s.size : Int) = t + ((frame8 s).length : Int) := by rw [frame8_len]; omega
  rw [hstr, ht]
end Go.Proofs.Ytnilogameaaooaa.Pure
/- What WireKeeps asks of a reader: plain facts, and rows of bytes and of items as they lie in memory. -/
namespace Go.Proofs.Ytnilogameaaooaa.Pure
open Go.RowKit Go.Proofs.Ytnilogameaaooaa.Q Go.Proofs.Ytnilogameaaooaa.Rdr Go.Proofs.Ytnilogameaaooaa.Tail Go.Proofs.YtnilogameaaooaaW.PrintWords Go.Proofs.YtnilogameaaooaaW.PrintLast Go.Proofs.YtnilogameaaooaaW.PrintMore Go.Proofs.Ytnilogameaaooaa.Bytes Go.Proofs.Ytnilogameaaooaa.Evs
set_option linter.unusedVariables false
set_option linter.unusedSimpArgs false

def xX : ByteArray := ⟨#[120]⟩
def kPlan : ByteArray := ⟨#[116, 116, 116, 116]⟩
def kT (s : ByteArray) : ByteArray := strOfNums (frame8 s) ++ strOfNums (frame8 (s ++ xX))
def kIts (s : ByteArray) : List S55 := [⟨false, 0, s⟩, ⟨false, 0, s ++ xX⟩]
theorem kT_nums (s : ByteArray) : numsOf (kT s) = frame8 s ++ frame8 (s ++ xX) := by
  unfold kT
  rw [nums_app, numsOf_str _ (frame8_range s), numsOf_str _ (frame8_range _)]
theorem sx_size (s : ByteArray) : (s ++ xX).size = s.size + 1 := by rw [ByteArray.size_append]; rfl
theorem kT_size (s : ByteArray) : (kT s).size ≤ 2 * s.size + 64 := by
  unfold kT
  rw [ByteArray.size_append, text_size, text_size, sx_size]
  have := pad8 s.size
  have := pad8 (s.size + 1)
  omega
theorem k_m0 (s : ByteArray) : m0 ((s.size : Int) + 1) = (s.size : Int) + 1 := by unfold m0; rw [if_neg (by omega)]
theorem got_k1 (s : ByteArray) (h : s.size ≤ 1048576) : got (kT s) kPlan ((s.size : Int) + 1) = (kIts s, 0, 0, (((frame8 s).length + (frame8 (s ++ xX)).length : Nat) : Int)) := by
  rw [got_none (by decide), kT_nums, k_m0]
  show parse _ (116 :: 116 :: [116, 116]) _ _ = _
  have h2 := sx_size s
  have e : frame8 s ++ frame8 (s ++ xX) = frame8 s ++ (frame8 (s ++ xX) ++ []) := by rw [List.append_nil]
  rw [e, parse_text _ s _ _ _ (by omega) (by omega), parse_text _ (s ++ xX) _ _ _ (by omega) (by rw [h2]; omega)]
  simp only [parse, List.length_nil]
  rw [if_pos (by omega)]
  have : 0 + ((frame8 s).length : Int) + ((frame8 (s ++ xX)).length : Int) + ((0 : Nat) : Int) = (((frame8 s).length + (frame8 (s ++ xX)).length : Nat) : Int) := by omega
  rw [this]
  rfl
theorem got_k2 (s : ByteArray) (h : s.size ≤ 1048576) : ∃ t, got (kT s ++ kT s) kPlan ((s.size : Int) + 1) = (kIts s ++ kIts s, 0, 0, t) := by
  refine ⟨0 + ((frame8 s).length : Int) + ((frame8 (s ++ xX)).length : Int) + ((frame8 s).length : Int) + ((frame8 (s ++ xX)).length : Int), ?_⟩
  rw [got_none (by decide), nums_app, kT_nums, k_m0]
  show parse _ (116 :: 116 :: 116 :: 116 :: []) _ _ = _
  have h2 := sx_size s
  have e : (frame8 s ++ frame8 (s ++ xX)) ++ (frame8 s ++ frame8 (s ++ xX)) = frame8 s ++ (frame8 (s ++ xX) ++ (frame8 s ++ (frame8 (s ++ xX) ++ []))) := by rw [List.append_nil, List.append_assoc]
  rw [e, parse_text _ s _ _ _ (by omega) (by omega), parse_text _ (s ++ xX) _ _ _ (by omega) (by rw [h2]; omega), parse_text _ s _ _ _ (by omega) (by omega), parse_text _ (s ++ xX) _ _ _ (by omega) (by rw [h2]; omega)]
  simp only [parse]
  rw [if_pos trivial]
  rfl
theorem keep_facts (s : ByteArray) (h : s.size ≤ 1048576) : (fedAll (kT s) kPlan ((s.size : Int) + 1)).2 = kIts s ∧ (feed (fedAll (kT s) kPlan ((s.size : Int) + 1)).1 (numsOf (kT s))).2 = kIts s ∧ (close (feed (fedAll (kT s) kPlan ((s.size : Int) + 1)).1 (numsOf (kT s))).1).code = 0 := by
  have a1 := (close_got (kT s) kPlan ((s.size : Int) + 1) (by omega)).1
  rw [got_k1 s h] at a1
  obtain ⟨t, e⟩ := got_k2 s h
  obtain ⟨b1, b2, _⟩ := close_got (kT s ++ kT s) kPlan ((s.size : Int) + 1) (by omega)
  rw [e] at b1 b2
  obtain ⟨f1, f2⟩ := fed_app (kT s) (kT s) kPlan ((s.size : Int) + 1)
  rw [f2, a1] at b1
  rw [f1] at b2
  refine ⟨a1, List.append_cancel_left b1, b2.trans ?_⟩
  unfold shutR
  rw [if_neg (fun q => absurd q.2 (by show ¬ (((kIts s ++ kIts s).length : Int) < (4 : Int)); simp [kIts]))]
/-- A row of bytes, all of it. -/
def QB (W : World) (g : Nat) (xs : List Int) : Prop := W.heap[g]? = some (.cells (nums .u8 xs).toArray 5 (0, 0))
section
variable {W W' : World} {g : Nat} {xs : List Int}
theorem QB.lt (h : QB W g xs) : g < W.heap.size := (Array.getElem?_eq_some_iff.1 h).1
theorem QB.cell (h : QB W g xs) (i : Nat) (x : Int) (hx : xs[i]? = some x) : W.cell? ⟨g, i, none⟩ = some (.int .u8 x) := by
  rw [cell3 h i]
  simp [nums, hx]
theorem QB.fro (h : QB W g xs) (i : Nat) : W.frozen? ⟨g, i, none⟩ = false := fro3 h i
theorem QB.set (h : QB W g xs) (i : Nat) (x : Int) : QB (W.setCell ⟨g, i, none⟩ (.int .u8 x)) g (xs.set i x) := by
  have h0 : W.heap[g]? = some (.cells (nums .u8 xs).toArray 5 (0, 0)) := h
  have : (W.setCell ⟨g, i, none⟩ (.int .u8 x)).heap[g]? = some (.cells ((nums .u8 xs).toArray.setIfInBounds i (.int .u8 x)) 5 (0, 0)) := by
    simp [World.setCell, Array.getElem?_modify, h0]
  unfold QB
  rw [this]
  congr 2
  simp [nums, List.map_set]
theorem QB.reads (h : QB W g xs) (n : Nat) (hn : n ≤ xs.length) (hm : n ≤ 9223372036854775807) : ReadsInt W .u8 (some ⟨g, 0, none⟩) n (xs.take n) := by
  refine ⟨by rw [List.length_take]; omega, hm, fun _ => ⟨_, rfl, fun j hj => ?_⟩⟩
  have hadd : (⟨g, 0, none⟩ : Addr).add j = ⟨g, j, none⟩ := by unfold Addr.add; split <;> simp_all
  have hjx : xs[j]? = some (xs[j]'(by omega)) := List.getElem?_eq_getElem (by omega)
  rw [hadd, h.cell j _ hjx]
  simp [List.getD_eq_getElem?_getD, List.getElem?_take, hj, hjx]
theorem QB.kept (h : QB W g xs) (e : W'.heap[g]? = W.heap[g]?) : QB W' g xs := e.trans h
end
section
variable {P : Program} {ops : Array Oper} {rest : List Oper} {o : Oper} {a : Act} {Q : Exit → Act → World → Prop}
/-- make([]byte, n). -/
theorem make_raw {W : World} (e : Nat) (hgd : o.guard = none) {N : Tmp} (hd : o.dst = some N) (t : TypeId) (x : Operand) (ho : o.op = .makeSlice t x x) (n : Nat) (hx : a.eval x = .int .i64 (n : Int))
    (ht : P.underlying t = some (.slice e)) (hinfo : (P.info? e).map (fun i => (i.zero, i.size, i.bytes)) = some (some (.int .u8 0), 1, 1)) (hl : n ≤ 140737488355328) (he : e = 5)
    (h : ∀ w1, QB w1 W.heap.size (List.replicate n 0) → Below W.heap.size W w1 → wpList P ops Q rest (a.put o.dst (.slice (some ⟨W.heap.size, 0, none⟩) n n)) w1) : wpList P ops Q (o :: rest) a W := by
  obtain ⟨i0, hi, hzz⟩ := Option.map_eq_some_iff.1 hinfo
  simp only [Prod.mk.injEq] at hzz
  obtain ⟨hz0, hz1, hz2⟩ := hzz
  have hr := run_make (P := P) W t e i0 (.int .u8 0) ht hi hz0 .i64 .i64 (n : Int) (n : Int) (by omega) (by omega)
    (by
      have h3 : ((i0.bytes * n : Nat) : Int) ≤ 281474976710656 := by rw [hz2, Nat.one_mul]; omega
      rwa [Int.natCast_mul] at h3) (by omega)
  simp only [Int.toNat_natCast] at hr
  have hrun : (execOp a.eval o).run P W = .ok (.value (.slice (some ⟨W.heap.size, 0, none⟩) n n)) (W.alloc (.cells (madeCells (Value.int .u8 0).cells (n * i0.size)) e)) := by
    simp [execOp, ho, hx, hr]
  refine Kd.event_run hgd hrun (h _ ?_ ((Below.refl _ _).alloc (Nat.le_refl _) _))
  unfold QB
  rw [heap_alloc_new, hz1, Nat.mul_one, he]
  congr 2
  apply Array.ext'
  have hc : (Value.int .u8 0).cells = #[Value.int .u8 0] := rfl
  rw [hc]
  simp only [madeCells, Array.toList_map, Array.toList_range, nums, List.map_replicate]
  apply List.ext_getElem
  · simp
  · intro j h1 h2
    simp [Nat.mod_one]
/-- copy(q, s), s a string that has room in q. -/
theorem copy_raw {W : World} (e : Nat) (hgd : o.guard = none) (x y : Operand) (t t' : TypeId) (ho : o.op = .call { callee := .builtin .copy, args := #[x, y], argTypes := #[t, t'] })
    (g N c : Nat) (xs : List Int) (s : ByteArray) (hx : a.eval x = .slice (some ⟨g, 0, none⟩) N c) (hy : a.eval y = .string s) (ht : P.underlying t = some (.slice e)) (hinfo : (P.info? e).map (·.size) = some 1)
    (hq : QB W g xs) (hl : xs.length = N) (hs : s.size ≤ N)
    (h : ∀ w1, QB w1 g (numsOf s ++ xs.drop s.size) → (∀ k, k ≠ g → w1.heap[k]? = W.heap[k]?) → w1.heap.size = W.heap.size → (∀ B w0, B ≤ g → Below B w0 W → Below B w0 w1) → wpList P ops Q rest (a.put o.dst (.int .i64 (s.size : Int))) w1) : wpList P ops Q (o :: rest) a W := by
  have hq0 : W.heap[g]? = some (.cells (nums .u8 xs).toArray 5 (0, 0)) := hq
  have hf := Lib.run_firstCells_string (P := P) W 1 s
  have hst := run_storeCells_at P g 0 5 (Lib.strCells s) 0 (nums .u8 xs).toArray W hq0 (by rw [Lib.strCells_length]; simp [nums]; omega) (Lib.strCells_oneCell s)
  obtain ⟨i, hi, hsz⟩ := Option.map_eq_some_iff.1 hinfo
  have hmin : Nat.min s.size N = s.size := Nat.min_eq_left hs
  have hrun : (Builtin.copy_ #[t, t'] o.type #[.slice (some ⟨g, 0, none⟩) N c, .string s]).run P W = .ok (goInt (s.size : Int)) (W.setRow g (Lib.strCells s ++ (nums .u8 xs).drop s.size).toArray) := by
    simp only [Nat.add_zero, Lib.strCells_length, Nat.zero_add, List.take_zero, List.nil_append] at hst
    simp [Builtin.copy_, run_underlying ht, Builtin.lenOf, sizeOf, typeInfo, hi, hsz, hmin, hf, hst]
  refine wpList_plain hgd fun K hK => ?_
  unfold Oper.wp execOp
  simp only [ho, resolve, invoke, builtin, Sem.run_bind, Sem.run_pure, Result.andThen_ok, List.map_toArray, List.map_cons, List.map_nil, hx, hy, hrun]
  refine hK _ _ (h _ ?_ (fun k hk => setRow_other W g k _ hk) (by simp) (fun B w0 hB hb => below_setRow hb hB _))
  unfold QB
  rw [setRow_heap W g _ _ _ _ hq0]
  congr 2
  simp [nums, numsOf, Lib.strCells, List.map_drop]
end
/-- Two items in memory. -/
structure IT (W : World) (base g cap : Nat) (t0 t1 : ByteArray) : Prop where
  row : ∃ cur : Array Value, W.heap[g]? = some (.cells cur 55 (0, 0)) ∧ cur.size = cap * 3 ∧ cur.toList.take 6 = [.bool false, .int .u64 0, .string t0, .bool false, .int .u64 0, .string t1]
  cap2 : 2 ≤ cap
  capm : cap ≤ maxLen
  lo : base ≤ g
section
variable {W W' : World} {base g cap : Nat} {t0 t1 u : ByteArray}
theorem IT.of_R {v : Value} (h : Kd.R k55 55 W base (fun _ => True) v [⟨false, 0, t0⟩, ⟨false, 0, t1⟩]) : ∃ g cap, v = .slice (some ⟨g, 0, none⟩) 2 cap ∧ IT W base g cap t0 t1 := by
  obtain ⟨_, inner, ho, hr⟩ := h
  have hsz : k55.sz = 3 := rfl
  rw [hsz] at ho hr
  have hlen : inner.length = 6 := hr.1
  have h0 := k55_openM (hr.2 0 _ rfl)
  have h1 := k55_openM (hr.2 1 _ rfl)
  have hin : inner = [.bool false, .int .u64 0, .string t0, .bool false, .int .u64 0, .string t1] := by
    have e : inner = inner.take 3 ++ (inner.drop 3).take 3 := by
      have : (inner.drop 3).take 3 = inner.drop 3 := List.take_of_length_le (by rw [List.length_drop]; omega)
      rw [this, List.take_append_drop]
    rw [e]
    simp only [Nat.zero_mul, List.drop_zero, Nat.one_mul] at h0 h1
    rw [h0, h1]
    rfl
  rcases ho.2 with ⟨_, hz⟩ | ⟨g, cap, cur, rfl, hb, hg, hnc, hcm, hcs, ht⟩
  · exact absurd hz (by simp)
  · refine ⟨g, cap, rfl, ⟨⟨cur, hg, hcs, ?_⟩, hnc, hcm, hb⟩⟩
    rw [← hin]
    exact ht
theorem IT.lt (h : IT W base g cap t0 t1) : g < W.heap.size := by
  obtain ⟨cur, hg, _⟩ := h.row
  exact (Array.getElem?_eq_some_iff.1 hg).1
theorem IT.cell (h : IT W base g cap t0 t1) (i : Nat) (x : Value) (hi : ([.bool false, .int .u64 0, .string t0, .bool false, .int .u64 0, .string t1] : List Value)[i]? = some x) : W.cell? ⟨g, i, none⟩ = some x := by
  obtain ⟨cur, hg, hs, ht⟩ := h.row
  rw [cell3 hg i]
  have hi6 : i < 6 := by
    have := (List.getElem?_eq_some_iff.1 hi).1
    simpa using this
  rw [← ht, List.getElem?_take, if_pos hi6] at hi
  simpa using hi
theorem IT.fro (h : IT W base g cap t0 t1) (i : Nat) : W.frozen? ⟨g, i, none⟩ = false := by
  obtain ⟨cur, hg, _⟩ := h.row
  exact fro3 hg i
theorem IT.kept (h : IT W base g cap t0 t1) (e : W'.heap[g]? = W.heap[g]?) : IT W' base g cap t0 t1 := by
  obtain ⟨cur, hg, hs, ht⟩ := h.row
  exact ⟨⟨cur, e.trans hg, hs, ht⟩, h.cap2, h.capm, h.lo⟩
theorem IT.type (h : IT W base g cap t0 t1) : ∃ cur : Array Value, W.heap[g]? = some (.cells cur 55 (0, 0)) := by
  obtain ⟨cur, hg, _⟩ := h.row
  exact ⟨cur, hg⟩
theorem IT.set0 (h : IT W base g cap t0 t1) : IT (W.setCell ⟨g, 2, none⟩ (.string u)) base g cap u t1 := by
  obtain ⟨cur, hg, hs, ht⟩ := h.row
  have h2 := h.cap2
  have hl : cur.toList.length = cur.size := Array.length_toList
  refine ⟨⟨cur.setIfInBounds 2 (.string u), by simp [World.setCell, Array.getElem?_modify, hg], by simpa using hs, ?_⟩, h.cap2, h.capm, h.lo⟩
  rw [Array.toList_setIfInBounds, List.take_set, ht]
  rfl
theorem IT.set1 (h : IT W base g cap t0 t1) : IT (W.setCell ⟨g, 5, none⟩ (.string u)) base g cap t0 u := by
  obtain ⟨cur, hg, hs, ht⟩ := h.row
  refine ⟨⟨cur.setIfInBounds 5 (.string u), by simp [World.setCell, Array.getElem?_modify, hg], by simpa using hs, ?_⟩, h.cap2, h.capm, h.lo⟩
  rw [Array.toList_setIfInBounds, List.take_set, ht]
  rfl
theorem IT.toR (h : IT W base g cap t0 t1) : Kd.R k55 55 W base (fun _ => True) (.slice (some ⟨g, 0, none⟩) 2 cap) [⟨false, 0, t0⟩, ⟨false, 0, t1⟩] := by
  obtain ⟨cur, hg, hs, ht⟩ := h.row
  refine ⟨fun _ _ => trivial, [.bool false, .int .u64 0, .string t0, .bool false, .int .u64 0, .string t1], ⟨rfl, .inr ⟨g, cap, cur, rfl, h.lo, hg, h.cap2, h.capm, hs, ht⟩⟩, ?_⟩
  exact Reps.c3 (k55_mkM W base _ ⟨false, 0, t0⟩) (Reps.c3 (k55_mkM W base _ ⟨false, 0, t1⟩) (Reps.none _ _))
end
/-- The reader and the row of bytes. -/
structure KS (w W : World) (b gq : Nat) (P : Ps) (xs : List Int) : Prop where
  rep : Rep P W b w.heap.size (fun k => b < k)
  row : QB W gq xs
  bel : Below w.heap.size w W
  lo : w.heap.size ≤ gq
  bg : gq < b
section
variable {w W W' : World} {b gq : Nat} {P P' : Ps} {xs xs' : List Int}
theorem KS.lts (h : KS w W b gq P xs) : gq < b ∧ b < W.heap.size ∧ w.heap.size ≤ gq := by
  obtain ⟨u, hA, _⟩ := h.rep
  exact ⟨h.bg, hA.lt, h.lo⟩
theorem KS.fed (h : KS w W b gq P xs) (hF : Rdr.Frame (fun k => b < k) b W W') (hr : Rep P' W' b w.heap.size (fun k => b < k)) : KS w W' b gq P' xs := by
  have h1 := h.lo
  have h2 := h.bg
  refine ⟨hr, h.row.kept (hF.block gq h.row.lt (by omega) (.inl (by omega))), h.bel.trans (frame_below hF h.bel.size (by omega) (fun k hk => by omega)), h.lo, h.bg⟩
theorem KS.move (h : KS w W b gq P xs) (hs : ∀ k, k ≠ gq → W'.heap[k]? = W.heap[k]?) (hq : QB W' gq xs') (hb : Below w.heap.size w W') : KS w W' b gq P xs' := by
  have h2 := h.bg
  obtain ⟨u, hA, hR⟩ := h.rep
  exact ⟨⟨u, (hs b (by omega)).trans hA, Kd.R_step hR (fun k hk _ => hs k (by omega))⟩, hq, hb, h.lo, h.bg⟩
theorem KS.set (h : KS w W b gq P xs) (i : Nat) (x : Int) : KS w (W.setCell ⟨gq, i, none⟩ (.int .u8 x)) b gq P (xs.set i x) :=
  h.move (fun k hk => Below.heap_setCell W ⟨gq, i, none⟩ _ k hk) (h.row.set i x) (h.bel.setCell (show w.heap.size ≤ gq from h.lo) _)
theorem KS.other (h : KS w W b gq P xs) (hs : ∀ k, k = gq ∨ k = b ∨ b < k ∧ (∃ cs, W.heap[k]? = some (.cells cs 5 (0, 0))) → W'.heap[k]? = W.heap[k]?) (hb : Below w.heap.size w W') : KS w W' b gq P xs := by
  obtain ⟨u, hA, hR⟩ := h.rep
  refine ⟨⟨u, (hs b (.inr (.inl rfl))).trans hA, Kd.R_mono (Kd.R_step (Kd.R_bound hR) ?_) (fun k hk => hk.1)⟩, h.row.kept (hs gq (.inl rfl)), hb, h.lo, h.bg⟩
  rintro k ⟨hk, _, _, q, hq, cells, hc⟩ _
  have hq' : q = 5 := by
    rcases List.mem_cons.1 hq with e | e
    · exact e
    · exact absurd e (by simp [Kd.int, Kd.scalar])
  subst hq'
  exact hs k (.inr (.inr ⟨hk, cells, hc⟩))
end
theorem IT.fed {W W' : World} {base g cap b : Nat} {t0 t1 : ByteArray} {ok : Nat → Prop} (h : IT W base g cap t0 t1) (hF : Rdr.Frame ok b W W') {P : Ps} {B : Nat} {okR : Nat → Prop} (hA : Rep P W b B okR) : IT W' base g cap t0 t1 := by
  obtain ⟨cur, hg⟩ := h.type
  obtain ⟨u, hA, _⟩ := hA
  refine h.kept (hF.block g h.lt ?_ (.inr ?_))
  · rintro rfl
    have hA : W.heap[g]? = some (.cells _ 71 (0, 0)) := hA
    rw [hg] at hA
    simp at hA
  · rintro ⟨cs, hc⟩
    rw [hg] at hc
    simp at hc
theorem KS.start {w wr w6 : World} {gq : Nat} {xs : List Int} {m : Int} (hB : Below w.heap.size w wr) (hQ : QB wr gq xs) (hlo : w.heap.size ≤ gq) (hA : ((newM kPlan m).rd (.slice none 0 0)).At w6 wr.heap.size) (hb : Below wr.heap.size wr w6) : KS w w6 wr.heap.size gq (newM kPlan m) xs := by
  refine ⟨⟨.slice none 0 0, hA, ?_⟩, hQ.kept (hb.block _ hQ.lt), hB.trans (hb.mono hB.size), hlo, hQ.lt⟩
  show Kd.R (Kd.int .u8) 5 w6 _ _ _ (newM kPlan m).text
  have : (newM kPlan m).text = [] := rfl
  rw [this]
  exact Kd.R_nil _ _ _ _ _
theorem KS.below {w W W' : World} {b gq : Nat} {P : Ps} {xs : List Int} (h : KS w W b gq P xs) (hb : Below W.heap.size W W') : KS w W' b gq P xs :=
  ⟨h.rep.below hb, h.row.kept (hb.block _ h.row.lt), h.bel.trans (hb.mono h.bel.size), h.lo, h.bg⟩
theorem IT.below {W W' : World} {base g cap : Nat} {t0 t1 : ByteArray} (h : IT W base g cap t0 t1) (hb : Below W.heap.size W W') : IT W' base g cap t0 t1 := h.kept (hb.block _ h.lt)
theorem IT.setq {w W : World} {base g cap b gq : Nat} {t0 t1 : ByteArray} {P : Ps} {xs : List Int} (h : IT W base g cap t0 t1) (hk : KS w W b gq P xs) {i : Nat} {u : Value} : IT (W.setCell ⟨gq, i, none⟩ u) base g cap t0 t1 := by
  obtain ⟨cur, hg⟩ := h.type
  refine h.kept (Below.heap_setCell W ⟨gq, i, none⟩ _ g ?_)
  rintro rfl
  have hq : W.heap[g]? = some (.cells _ 5 (0, 0)) := hk.row
  rw [hg] at hq
  simp at hq
theorem KS.setit {w W : World} {base g cap b gq : Nat} {t0 t1 : ByteArray} {P : Ps} {xs : List Int} (hk : KS w W b gq P xs) (h : IT W base g cap t0 t1) (hlo : w.heap.size ≤ g) {i : Nat} {u : Value} : KS w (W.setCell ⟨g, i, none⟩ u) b gq P xs := by
  obtain ⟨cur, hg⟩ := h.type
  obtain ⟨v, hA, _⟩ := hk.rep
  refine hk.other (fun k hc => Below.heap_setCell W ⟨g, i, none⟩ _ k ?_) (hk.bel.setCell (show w.heap.size ≤ g from hlo) _)
  rintro rfl
  rcases hc with rfl | rfl | ⟨_, cs, hc⟩
  · have hq : W.heap[k]? = some (.cells _ 5 (0, 0)) := hk.row
    rw [hg] at hq
    simp at hq
  · have hA : W.heap[k]? = some (.cells _ 71 (0, 0)) := hA
    rw [hg] at hA
    simp at hA
  · rw [hg] at hc
    simp at hc
theorem KS.grown {w W W' : World} {base g cap b gq : Nat} {t0 t1 : ByteArray} {P : Ps} {xs : List Int} (hk : KS w W b gq P xs) (h : IT W base g cap t0 t1) (hg : W.grownBy W' (some g)) (hb : Below w.heap.size w W') : KS w W' b gq P xs := by
  obtain ⟨cur, hc0⟩ := h.type
  obtain ⟨v, hA, _⟩ := hk.rep
  have hlt := hk.lts
  have hql := hk.row.lt
  refine hk.other (fun k hc => hg.block k ?_ ?_) hb
  · rcases hc with rfl | rfl | ⟨_, cs, hc⟩
    · exact hql
    · exact hlt.2.1
    · exact (Array.getElem?_eq_some_iff.1 hc).1
  · intro e
    injection e with e
    subst e
    rcases hc with rfl | rfl | ⟨_, cs, hc⟩
    · have hq : W.heap[k]? = some (.cells _ 5 (0, 0)) := hk.row
      rw [hc0] at hq
      simp at hq
    · have hA : W.heap[k]? = some (.cells _ 71 (0, 0)) := hA
      rw [hc0] at hA
      simp at hA
    · rw [hc0] at hc
      simp at hc
theorem IT.setother {W : World} {base g cap : Nat} {t0 t1 : ByteArray} (h : IT W base g cap t0 t1) {k i : Nat} {u : Value} (hne : g ≠ k) : IT (W.setCell ⟨k, i, none⟩ u) base g cap t0 t1 := h.kept (Below.heap_setCell W ⟨k, i, none⟩ _ g hne)
theorem four_of_R {W : World} {base : Nat} {v : Value} {x0 x1 x2 x3 : S55} (h : Kd.R k55 55 W base (fun _ => True) v [x0, x1, x2, x3]) : ∃ g cap, v = .slice (some ⟨g, 0, none⟩) 4 cap ∧ W.cell? ⟨g, 2, none⟩ = some (.string x0.f2) ∧ W.cell? ⟨g, 5, none⟩ = some (.string x1.f2) := by
  obtain ⟨_, inner, ho, hr⟩ := h
  have hsz : k55.sz = 3 := rfl
  rw [hsz] at ho hr
  have hlen : inner.length = 12 := hr.1
  have h0 := k55_openM (hr.2 0 _ rfl)
  have h1 := k55_openM (hr.2 1 _ rfl)
  simp only [Nat.zero_mul, List.drop_zero, Nat.one_mul] at h0 h1
  have e2 : inner[2]? = some (.string x0.f2) := by
    have : (inner.take 3)[2]? = inner[2]? := by rw [List.getElem?_take, if_pos (by omega)]
    rw [← this, h0]
    rfl
  have e5 : inner[5]? = some (.string x1.f2) := by
    have : ((inner.drop 3).take 3)[2]? = inner[5]? := by rw [List.getElem?_take, if_pos (by omega), List.getElem?_drop]
    rw [← this, h1]
    rfl
  rcases ho.2 with ⟨_, hz⟩ | ⟨g, cap, cur, rfl, hb, hg, hnc, hcm, hcs, ht⟩
  · exact absurd hz (by simp)
  · have ht : cur.toList.take 12 = inner := ht
    refine ⟨g, cap, rfl, ?_, ?_⟩
    · rw [cell3 hg 2, ← e2, ← ht, List.getElem?_take, if_pos (by omega)]
      simp
    · rw [cell3 hg 5, ← e5, ← ht, List.getElem?_take, if_pos (by omega)]
      simp
end Go.Proofs.Ytnilogameaaooaa.Pure
