/- By a program of this session's: a plain Lean function for a Go function, and its contract. -/
import Derived.Test.YtbllmpfdhcbkpaaDoorQ0
import Derived.Test.YtbllmpfdhcbkpaaDoorQ4
namespace Go.Proofs.YtbllmpfdhcbkpaaDoor.Q
open Go.RowKit Go.Proofs.YtbllmpfdhcbkpaaDoorW.PrintWords Go.Proofs.YtbllmpfdhcbkpaaDoorW.PrintLast Go.Proofs.YtbllmpfdhcbkpaaDoorW.PrintMore
attribute [local go_sem] max2_int min2_int max_two min_two max_three min_three max_four min_four Go.Proofs.YtbllmpfdhcbkpaaDoor.Ord.str_leq Go.Proofs.YtbllmpfdhcbkpaaDoor.Ord.str_gtr Go.Proofs.YtbllmpfdhcbkpaaDoor.Ord.str_geq   -- for this text's walks alone
set_option linter.unusedVariables false
set_option linter.unusedSimpArgs false

/-! ### spath_CheckHash: function 24 -/
def spath_CheckHash.f (k : Nat) (a0 : ByteArray) : Option (Int) := if (a0.size : Int) = 32 then ((radix_FromBase32.f k a0).bind fun bt109 => (if bt109.2 = 0 then (some 0) else (some 131))) else (some 131)
theorem spath_CheckHash.mono : ∀ a0 k, LeO (spath_CheckHash.f k a0) (spath_CheckHash.f (k + 1) a0) := by
  intro a0 k
  unfold spath_CheckHash.f
  repeat' first
      | (with_reducible exact radix_FromBase32.mono _ _)
      | (with_reducible exact LeO.refl _)
      | (with_reducible exact LeO.none _)
      | (with_reducible refine LeO.ite ?_ ?_)
      | (with_reducible refine LeO.bind ?_ (fun _ => ?_))
      | exact radix_FromBase32.mono _ _
      | exact LeO.none _
      | refine LeO.ite ?_ ?_
      | refine LeO.bind ?_ (fun _ => ?_)
set_option maxHeartbeats 8000000 in
set_option maxRecDepth 100000 in
theorem spath_CheckHash.calls (k : Nat) (a0 : ByteArray) (r : Int) (w : World) (h : spath_CheckHash.f k a0 = some r) :
    Calls Tryd.prog 24 #[.string a0] w fun e w' => e = .returned (.int .i64 r) ∧ Below w.heap.size w w' := by
  have HB := Aside0.mk (Below.refl w.heap.size w)
  have H : (if (a0.size : Int) = 32 then ((radix_FromBase32.f k a0).bind fun bt109 => (if bt109.2 = 0 then (some 0) else (some 131))) else (some 131)) = some r := h
  clear h
  by_cases c2 : (a0.size : Int) = 32
  · rw [if_pos c2] at H
    have c2b0 : ((a0.size : Int) == 32) = true := beq_iff_eq.mpr c2
    have c2b1 : ((a0.size : Int) != 32) = false := bne_eq_false_iff_eq.mpr c2
    clear c2
    replace H := Option.bind_eq_some_iff.mp H
    obtain ⟨⟨t109, t110⟩, A30, H⟩ := H
    replace H : (if t110 = 0 then (some 0) else (some 131)) = some r := H
    have A3 := Aside0.mk A30
    clear A30
    by_cases c4 : t110 = 0
    · rw [if_pos c4] at H
      have c4b0 : (t110 == 0) = true := beq_iff_eq.mpr c4
      have c4b1 : (t110 != 0) = false := bne_eq_false_iff_eq.mpr c4
      clear c4
      obtain rfl := Option.some.inj H
      go_enter Tryd.func24, Tryd.ntmps24
      go_wp2_with (first | ((with_reducible refine gate_callee (f := 45) rfl ?_); refine goesL_ (some 10) rfl rfl Tryd.func45 (by kernel_rfl) rfl #[.string a0] rfl (by (try simp only [List.map_toArray, List.map_cons, List.map_nil]); first | done | rfl | (simp only [List.length_drop, List.length_take]; rfl)) ?_; (with_reducible refine (radix_FromBase32.calls k a0 t109 t110 _ A3.out).mono ?_); rintro e w5 ⟨rfl, hb⟩; refine ⟨_, rfl, ?_⟩; have n0_ := Aside0.mk (below_step (by repeat (first | (with_reducible first | exact HB.out | apply below_alloc | apply pw_below_drewN | apply below_drew1) | exact HB.out)) hb); clear HB; have HB := n0_; clear n0_; (try clear hb); (try clear hb2); (try clear hk); (try clear hi)))
      go_ret
      exact ⟨by first | rfl | (simp [errW_none, errW_some] <;> rfl) | (simp [*, errW_none, errW_some] <;> rfl), by repeat (first | (with_reducible first | exact HB.out | apply below_alloc | apply pw_below_drewN | apply below_drew1) | exact HB.out)⟩
    · rw [if_neg c4] at H
      have c4b0 : (t110 == 0) = false := beq_eq_false_iff_ne.mpr c4
      have c4b1 : (t110 != 0) = true := bne_iff_ne.mpr c4
      obtain rfl := Option.some.inj H
      go_enter Tryd.func24, Tryd.ntmps24
      go_wp2_with (first | ((with_reducible refine gate_callee (f := 45) rfl ?_); refine goesL_ (some 10) rfl rfl Tryd.func45 (by kernel_rfl) rfl #[.string a0] rfl (by (try simp only [List.map_toArray, List.map_cons, List.map_nil]); first | done | rfl | (simp only [List.length_drop, List.length_take]; rfl)) ?_; (with_reducible refine (radix_FromBase32.calls k a0 t109 t110 _ A3.out).mono ?_); rintro e w6 ⟨rfl, hb⟩; refine ⟨_, rfl, ?_⟩; have n0_ := Aside0.mk (below_step (by repeat (first | (with_reducible first | exact HB.out | apply below_alloc | apply pw_below_drewN | apply below_drew1) | exact HB.out)) hb); clear HB; have HB := n0_; clear n0_; (try clear hb); (try clear hb2); (try clear hk); (try clear hi)))
      go_ret
      exact ⟨by first | rfl | (simp [errW_none, errW_some] <;> rfl) | (simp [*, errW_none, errW_some] <;> rfl), by repeat (first | (with_reducible first | exact HB.out | apply below_alloc | apply pw_below_drewN | apply below_drew1) | exact HB.out)⟩
  · rw [if_neg c2] at H
    have c2b0 : ((a0.size : Int) == 32) = false := beq_eq_false_iff_ne.mpr c2
    have c2b1 : ((a0.size : Int) != 32) = true := bne_iff_ne.mpr c2
    obtain rfl := Option.some.inj H
    go_enter Tryd.func24, Tryd.ntmps24
    go_wp2
    go_ret
    exact ⟨by first | rfl | (simp [errW_none, errW_some] <;> rfl) | (simp [*, errW_none, errW_some] <;> rfl), by repeat (first | (with_reducible first | exact HB.out | apply below_alloc | apply pw_below_drewN | apply below_drew1) | exact HB.out)⟩

end Go.Proofs.YtbllmpfdhcbkpaaDoor.Q
