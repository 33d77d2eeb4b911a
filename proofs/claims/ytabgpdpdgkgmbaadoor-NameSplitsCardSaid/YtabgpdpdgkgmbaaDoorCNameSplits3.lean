/- Texts of this claim, put together: Q26, NameSplitPure, NameJoinPure, NameAwake, PureNameSplits, Door. -/
import Derived.Test.YtabgpdpdgkgmbaaDoorCNameSplits1
import Derived.Test.YtabgpdpdgkgmbaaDoorCNameSplits2
import Derived.Test.YtabgpdpdgkgmbaaDoorRows
import Derived.ProofKit
import Derived.LaidMore
import Derived.LaidLaws
import Derived.LaidHandle
import Derived.OpenShut
/- By a program of this session's: a plain Lean function for a Go function, and its contract. -/
namespace Go.Proofs.YtabgpdpdgkgmbaaDoor.Q
open Go.RowKit Go.Proofs.YtabgpdpdgkgmbaaDoorW.PrintWords Go.Proofs.YtabgpdpdgkgmbaaDoorW.PrintLast Go.Proofs.YtabgpdpdgkgmbaaDoorW.PrintMore
attribute [local go_sem] max2_int min2_int max_two min_two max_three min_three max_four min_four Go.Proofs.YtabgpdpdgkgmbaaDoor.Ord.str_leq Go.Proofs.YtabgpdpdgkgmbaaDoor.Ord.str_gtr Go.Proofs.YtabgpdpdgkgmbaaDoor.Ord.str_geq   -- for this text's walks alone
set_option linter.unusedVariables false
set_option linter.unusedSimpArgs false

/-! ### depotlaw05_NameSplits: function 3 -/
def depotlaw05_NameSplits.f (k : Nat) (a0 : ByteArray) : Option (Bool) := (depotlaw05_awake.f k).bind fun t128 => (if t128 = true then ((name_Split.f a0).bind fun bt129 => ((depotref05_Split.f k a0).bind fun bt135 => ((depotlaw05_alike.f k bt129.1 bt135.1).bind fun t140 => (if t140 = true then (if bt129.2.1 = bt135.2.1 then (some (bt129.2.2 == bt135.2.2)) else (some false)) else (some false))))) else (some false))
theorem depotlaw05_NameSplits.mono : ∀ a0 k, LeO (depotlaw05_NameSplits.f k a0) (depotlaw05_NameSplits.f (k + 1) a0) := by
  intro a0 k
  unfold depotlaw05_NameSplits.f
  repeat' first
      | (with_reducible exact depotlaw05_alike.mono _ _ _)
      | (with_reducible exact depotlaw05_awake.mono _)
      | (with_reducible exact depotref05_Split.mono _ _)
      | (with_reducible exact LeO.refl _)
      | (with_reducible exact LeO.none _)
      | (with_reducible refine LeO.ite ?_ ?_)
      | (with_reducible refine LeO.bind ?_ (fun _ => ?_))
      | exact depotlaw05_alike.mono _ _ _
      | exact depotlaw05_awake.mono _
      | exact depotref05_Split.mono _ _
      | exact LeO.none _
      | refine LeO.ite ?_ ?_
      | refine LeO.bind ?_ (fun _ => ?_)
set_option maxHeartbeats 8000000 in
set_option maxRecDepth 100000 in
theorem depotlaw05_NameSplits.calls (k : Nat) (a0 : ByteArray) (r : Bool) (w : World) (h : depotlaw05_NameSplits.f k a0 = some r) :
    Calls Tryd.prog 3 #[.string a0] w fun e w' => e = .returned (.bool r) ∧ Below w.heap.size w w' := by
  have hu26 := Tryd.underlying26
  have HB := Aside0.mk (Below.refl w.heap.size w)
  have H : ((depotlaw05_awake.f k).bind fun t128 => (if t128 = true then ((name_Split.f a0).bind fun bt129 => ((depotref05_Split.f k a0).bind fun bt135 => ((depotlaw05_alike.f k bt129.1 bt135.1).bind fun t140 => (if t140 = true then (if bt129.2.1 = bt135.2.1 then (some (bt129.2.2 == bt135.2.2)) else (some false)) else (some false))))) else (some false))) = some r := h
  clear h
  replace H := Option.bind_eq_some_iff.mp H
  obtain ⟨t128, A20, H⟩ := H
  replace H : (if t128 = true then ((name_Split.f a0).bind fun bt129 => ((depotref05_Split.f k a0).bind fun bt135 => ((depotlaw05_alike.f k bt129.1 bt135.1).bind fun t140 => (if t140 = true then (if bt129.2.1 = bt135.2.1 then (some (bt129.2.2 == bt135.2.2)) else (some false)) else (some false))))) else (some false)) = some r := H
  have A2 := Aside0.mk A20
  clear A20
  by_cases c3 : t128 = true
  · subst c3
    have H1 : ((name_Split.f a0).bind fun bt129 => ((depotref05_Split.f k a0).bind fun bt135 => ((depotlaw05_alike.f k bt129.1 bt135.1).bind fun t140 => (if t140 = true then (if bt129.2.1 = bt135.2.1 then (some (bt129.2.2 == bt135.2.2)) else (some false)) else (some false))))) = some r := by rw [if_pos rfl] at H; exact H
    clear H
    have H := H1
    clear H1
    replace H := Option.bind_eq_some_iff.mp H
    obtain ⟨⟨t129, t132, t133⟩, A40, H⟩ := H
    replace H : ((depotref05_Split.f k a0).bind fun bt135 => ((depotlaw05_alike.f k t129 bt135.1).bind fun t140 => (if t140 = true then (if t132 = bt135.2.1 then (some (t133 == bt135.2.2)) else (some false)) else (some false)))) = some r := H
    have A4 := Aside0.mk A40
    clear A40
    replace H := Option.bind_eq_some_iff.mp H
    obtain ⟨⟨t135, t136, t137⟩, A50, H⟩ := H
    replace H : ((depotlaw05_alike.f k t129 t135).bind fun t140 => (if t140 = true then (if t132 = t136 then (some (t133 == t137)) else (some false)) else (some false))) = some r := H
    have A5 := Aside0.mk A50
    clear A50
    replace H := Option.bind_eq_some_iff.mp H
    obtain ⟨t140, A60, H⟩ := H
    replace H : (if t140 = true then (if t132 = t136 then (some (t133 == t137)) else (some false)) else (some false)) = some r := H
    have A6 := Aside0.mk A60
    clear A60
    by_cases c7 : t140 = true
    · subst c7
      have H1 : (if t132 = t136 then (some (t133 == t137)) else (some false)) = some r := by rw [if_pos rfl] at H; exact H
      clear H
      have H := H1
      clear H1
      by_cases c8 : t132 = t136
      · rw [if_pos c8] at H
        have c8b0 : (t132 == t136) = true := beq_iff_eq.mpr c8
        have c8b1 : (t132 != t136) = false := bne_eq_false_iff_eq.mpr c8
        clear c8
        obtain rfl := Option.some.inj H
        go_enter Tryd.func3, Tryd.ntmps3
        go_wp2_with (first | ((with_reducible refine gate_callee (f := 8) rfl ?_); refine goesL_ (some 8) rfl rfl Tryd.func8 (by kernel_rfl) rfl #[] rfl (by (try simp only [List.map_toArray, List.map_cons, List.map_nil]); first | done | rfl | (simp only [List.length_drop, List.length_take]; rfl)) ?_; (with_reducible refine (depotlaw05_awake.calls k  true _ A2.out).mono ?_); rintro e w9 ⟨rfl, hb⟩; refine ⟨_, rfl, ?_⟩; have n0_ := Aside0.mk (below_step (by repeat (first | (with_reducible first | exact HB.out | apply below_alloc | apply pw_below_drewN | apply below_drew1) | exact HB.out)) hb); clear HB; have HB := n0_; clear n0_; (try clear hb); (try clear hb2); (try clear hk); (try clear hi)) | ((with_reducible refine gate_callee (f := 9) rfl ?_); refine goesL_ (some 12) rfl rfl Tryd.func9 (by kernel_rfl) rfl #[.string a0] rfl (by (try simp only [List.map_toArray, List.map_cons, List.map_nil]); first | done | rfl | (simp only [List.length_drop, List.length_take]; rfl)) ?_; (with_reducible refine (name_Split.calls a0 t129 t132 t133 _ A4.out).mono ?_); rintro e w10 ⟨v130, rfl, ho0, hb⟩; refine ⟨_, rfl, ?_⟩; have n0_ := Aside0.mk (Kd.R_lower ho0 (below_size (by repeat (first | (with_reducible first | exact HB.out | apply below_alloc | apply pw_below_drewN | apply below_drew1) | exact HB.out)))); have n1_ := Aside0.mk (below_step (by repeat (first | (with_reducible first | exact HB.out | apply below_alloc | apply pw_below_drewN | apply below_drew1) | exact HB.out)) hb); clear HB; have HO131 := n0_; have HB := n1_; clear n0_ n1_; (try clear hb); (try clear hb2); (try clear hk); (try clear hi); (try clear ho0)) | ((with_reducible refine gate_dst (N := 4) rfl ?_); refine box_event ?hg (N := 4) ?hd (cs := #[.int .i64 0, .int .i64 0]) (t := 26) ?hr ?_; (case hd => rfl); (case hg => rfl); (case hr => first | (go_simp; done) | (go_simp; rfl)); intro gb134 hg w11 hbox hb; have n0_ := Aside0.mk (Kd.R_below (by (with_reducible repeat (first | apply Kd.R_alloc | apply Kd.R_drewN | apply Kd.R_drew)); exact HO131.out) hb); have n1_ := Aside0.mk (below_step (by repeat (first | (with_reducible first | exact HB.out | apply below_alloc | apply pw_below_drewN | apply below_drew1) | exact HB.out)) hb); have n2_ := Aside0.mk (hbox); have n3_ := Aside0.mk ((by rw [hg]; exact (below_size (by repeat (first | (with_reducible first | exact HB.out | apply below_alloc | apply pw_below_drewN | apply below_drew1) | exact HB.out))) : w.heap.size ≤ gb134)); have n4_ := Aside0.mk ((by rw [hg]; exact (below_size (by repeat (first | (with_reducible first | exact HB.out | apply below_alloc | apply pw_below_drewN | apply below_drew1) | exact HB.out))) : w.heap.size ≤ gb134)); clear HO131; clear HB; have HO131 := n0_; have HB := n1_; have BK134 := n2_; have GW134 := n3_; have GE134 := n4_; clear n0_ n1_ n2_ n3_ n4_; clear hb hbox hg; have hcz12_0 : w11.cell? ⟨gb134, 0, none⟩ = some (.int .i64 0) := (blk_cell BK134.out 0).trans rfl; have hcz12_1 : w11.cell? ⟨gb134, 1, none⟩ = some (.int .i64 0) := (blk_cell BK134.out 1).trans rfl; have hfz12_0 := blk_frozen BK134.out 0; have hfz12_1 := blk_frozen BK134.out 1) | ((with_reducible refine gate_callee (f := 10) rfl ?_); refine goesL_ (some 17) rfl rfl Tryd.func10 (by kernel_rfl) rfl #[.string a0] rfl (by (try simp only [List.map_toArray, List.map_cons, List.map_nil]); first | done | rfl | (simp only [List.length_drop, List.length_take]; rfl)) ?_; (with_reducible refine (depotref05_Split.calls k a0 t135 t136 t137 _ A5.out).mono ?_); rintro e w13 ⟨v138, rfl, ho0, hb⟩; refine ⟨_, rfl, ?_⟩; have n0_ := Aside0.mk (Kd.R_elder' (by (with_reducible repeat (first | apply Kd.R_alloc | apply Kd.R_drewN | apply Kd.R_drew)); exact (Kd.R_mono (Kd.R_far (p := ⟨gb134, 1, none⟩) (Kd.R_far (p := ⟨gb134, 0, none⟩) (Kd.R_types HO131.out BK134.out (by decide)) (fun _ hk => hk.2) (.int .i64 t132)) (fun _ hk => hk.2) (.int .i64 t133)) (fun _ h_ => h_.1))) (Kd.R_base ho0) hb); have n1_ := Aside0.mk (Kd.R_lower (Kd.R_new' ho0 (Kd.R_lt (by (with_reducible repeat (first | apply Kd.R_alloc | apply Kd.R_drewN | apply Kd.R_drew)); exact (Kd.R_mono (Kd.R_far (p := ⟨gb134, 1, none⟩) (Kd.R_far (p := ⟨gb134, 0, none⟩) (Kd.R_types HO131.out BK134.out (by decide)) (fun _ hk => hk.2) (.int .i64 t132)) (fun _ hk => hk.2) (.int .i64 t133)) (fun _ h_ => h_.1))))) (below_size (by repeat (first | (with_reducible first | exact HB.out | apply below_alloc | apply pw_below_drewN | apply below_drew1 | refine below_set ?_ GE134.out) | exact HB.out)))); have n2_ := Aside0.mk (blk_below (g := gb134) (o := .cells #[.int .i64 t132, .int .i64 t133] 26 (0, 0)) (by (with_reducible repeat (first | refine blk_drewN ?_ _ | refine blk_drew ?_ | refine blk_alloc ?_ _)); refine blk_put (cs := #[.int .i64 t132, .int .i64 0]) ?_ 1 _ rfl; (with_reducible repeat (first | refine blk_drewN ?_ _ | refine blk_drew ?_ | refine blk_alloc ?_ _)); refine blk_put (cs := #[.int .i64 0, .int .i64 0]) ?_ 0 _ rfl; (with_reducible repeat (first | refine blk_drewN ?_ _ | refine blk_drew ?_ | refine blk_alloc ?_ _)); exact BK134.out) hb); have n3_ := Aside0.mk (below_step (by repeat (first | (with_reducible first | exact HB.out | apply below_alloc | apply pw_below_drewN | apply below_drew1 | refine below_set ?_ GE134.out) | exact HB.out)) hb); clear HO131; clear BK134; clear HB; have HO131 := n0_; have HO139 := n1_; have BK134 := n2_; have HB := n3_; clear n0_ n1_ n2_ n3_; (try clear hb); (try clear hb2); (try clear hk); (try clear hi); (try clear ho0); obtain ⟨Ao14, co14, eo14⟩ := Kd.R_slice HO131.out; subst eo14; obtain ⟨Ao15, co15, eo15⟩ := Kd.R_slice HO139.out; subst eo15) | ((with_reducible refine gate_callee (f := 11) rfl ?_); refine goesL_ (some 23) rfl rfl Tryd.func11 (by kernel_rfl) rfl #[.slice Ao14 t129.length co14, .slice Ao15 t135.length co15] rfl (by (try simp only [List.map_toArray, List.map_cons, List.map_nil]); first | done | rfl | (simp only [List.length_drop, List.length_take]; rfl)) ?_; (with_reducible refine (depotlaw05_alike.calls k _ _ t129 _ _ t135 true _ ?side1 ?side2 ?side3 ?side4 A6.out).mono ?_); (case side1 => repeat (first | exact (Kd.R_reads' HO131.out).2.2 | (with_reducible refine Kd.C_alloc ?_ _) | (with_reducible refine Kd.C_drewN ?_ _) | (with_reducible refine Kd.C_drew ?_))); (case side2 => exact (Kd.R_reads' HO131.out).2.1); (case side3 => repeat (first | exact (Kd.R_reads' HO139.out).2.2 | (with_reducible refine Kd.C_alloc ?_ _) | (with_reducible refine Kd.C_drewN ?_ _) | (with_reducible refine Kd.C_drew ?_))); (case side4 => exact (Kd.R_reads' HO139.out).2.1); rintro e w' ⟨rfl, ⟨nd, rfl⟩⟩; refine ⟨_, rfl, ?_⟩; have hcz16_0 : w13.cell? ⟨gb134, 0, none⟩ = some (.int .i64 t132) := (blk_cell BK134.out 0).trans rfl; have hcz16_1 : w13.cell? ⟨gb134, 1, none⟩ = some (.int .i64 t133) := (blk_cell BK134.out 1).trans rfl; have hfz16_0 := blk_frozen BK134.out 0; have hfz16_1 := blk_frozen BK134.out 1))
        go_ret
        exact ⟨by first | rfl | (simp [errW_none, errW_some] <;> rfl) | (simp [*, errW_none, errW_some] <;> rfl), by repeat (first | (with_reducible first | exact HB.out | apply below_alloc | apply pw_below_drewN | apply below_drew1 | refine below_set ?_ GE134.out) | exact HB.out)⟩
      · rw [if_neg c8] at H
        have c8b0 : (t132 == t136) = false := beq_eq_false_iff_ne.mpr c8
        have c8b1 : (t132 != t136) = true := bne_iff_ne.mpr c8
        obtain rfl := Option.some.inj H
        go_enter Tryd.func3, Tryd.ntmps3
        go_wp2_with (first | ((with_reducible refine gate_callee (f := 8) rfl ?_); refine goesL_ (some 8) rfl rfl Tryd.func8 (by kernel_rfl) rfl #[] rfl (by (try simp only [List.map_toArray, List.map_cons, List.map_nil]); first | done | rfl | (simp only [List.length_drop, List.length_take]; rfl)) ?_; (with_reducible refine (depotlaw05_awake.calls k  true _ A2.out).mono ?_); rintro e w17 ⟨rfl, hb⟩; refine ⟨_, rfl, ?_⟩; have n0_ := Aside0.mk (below_step (by repeat (first | (with_reducible first | exact HB.out | apply below_alloc | apply pw_below_drewN | apply below_drew1) | exact HB.out)) hb); clear HB; have HB := n0_; clear n0_; (try clear hb); (try clear hb2); (try clear hk); (try clear hi)) | ((with_reducible refine gate_callee (f := 9) rfl ?_); refine goesL_ (some 12) rfl rfl Tryd.func9 (by kernel_rfl) rfl #[.string a0] rfl (by (try simp only [List.map_toArray, List.map_cons, List.map_nil]); first | done | rfl | (simp only [List.length_drop, List.length_take]; rfl)) ?_; (with_reducible refine (name_Split.calls a0 t129 t132 t133 _ A4.out).mono ?_); rintro e w18 ⟨v130, rfl, ho0, hb⟩; refine ⟨_, rfl, ?_⟩; have n0_ := Aside0.mk (Kd.R_lower ho0 (below_size (by repeat (first | (with_reducible first | exact HB.out | apply below_alloc | apply pw_below_drewN | apply below_drew1) | exact HB.out)))); have n1_ := Aside0.mk (below_step (by repeat (first | (with_reducible first | exact HB.out | apply below_alloc | apply pw_below_drewN | apply below_drew1) | exact HB.out)) hb); clear HB; have HO131 := n0_; have HB := n1_; clear n0_ n1_; (try clear hb); (try clear hb2); (try clear hk); (try clear hi); (try clear ho0)) | ((with_reducible refine gate_dst (N := 4) rfl ?_); refine box_event ?hg (N := 4) ?hd (cs := #[.int .i64 0, .int .i64 0]) (t := 26) ?hr ?_; (case hd => rfl); (case hg => rfl); (case hr => first | (go_simp; done) | (go_simp; rfl)); intro gb134 hg w19 hbox hb; have n0_ := Aside0.mk (Kd.R_below (by (with_reducible repeat (first | apply Kd.R_alloc | apply Kd.R_drewN | apply Kd.R_drew)); exact HO131.out) hb); have n1_ := Aside0.mk (below_step (by repeat (first | (with_reducible first | exact HB.out | apply below_alloc | apply pw_below_drewN | apply below_drew1) | exact HB.out)) hb); have n2_ := Aside0.mk (hbox); have n3_ := Aside0.mk ((by rw [hg]; exact (below_size (by repeat (first | (with_reducible first | exact HB.out | apply below_alloc | apply pw_below_drewN | apply below_drew1) | exact HB.out))) : w.heap.size ≤ gb134)); have n4_ := Aside0.mk ((by rw [hg]; exact (below_size (by repeat (first | (with_reducible first | exact HB.out | apply below_alloc | apply pw_below_drewN | apply below_drew1) | exact HB.out))) : w.heap.size ≤ gb134)); clear HO131; clear HB; have HO131 := n0_; have HB := n1_; have BK134 := n2_; have GW134 := n3_; have GE134 := n4_; clear n0_ n1_ n2_ n3_ n4_; clear hb hbox hg; have hcz20_0 : w19.cell? ⟨gb134, 0, none⟩ = some (.int .i64 0) := (blk_cell BK134.out 0).trans rfl; have hcz20_1 : w19.cell? ⟨gb134, 1, none⟩ = some (.int .i64 0) := (blk_cell BK134.out 1).trans rfl; have hfz20_0 := blk_frozen BK134.out 0; have hfz20_1 := blk_frozen BK134.out 1) | ((with_reducible refine gate_callee (f := 10) rfl ?_); refine goesL_ (some 17) rfl rfl Tryd.func10 (by kernel_rfl) rfl #[.string a0] rfl (by (try simp only [List.map_toArray, List.map_cons, List.map_nil]); first | done | rfl | (simp only [List.length_drop, List.length_take]; rfl)) ?_; (with_reducible refine (depotref05_Split.calls k a0 t135 t136 t137 _ A5.out).mono ?_); rintro e w21 ⟨v138, rfl, ho0, hb⟩; refine ⟨_, rfl, ?_⟩; have n0_ := Aside0.mk (Kd.R_elder' (by (with_reducible repeat (first | apply Kd.R_alloc | apply Kd.R_drewN | apply Kd.R_drew)); exact (Kd.R_mono (Kd.R_far (p := ⟨gb134, 1, none⟩) (Kd.R_far (p := ⟨gb134, 0, none⟩) (Kd.R_types HO131.out BK134.out (by decide)) (fun _ hk => hk.2) (.int .i64 t132)) (fun _ hk => hk.2) (.int .i64 t133)) (fun _ h_ => h_.1))) (Kd.R_base ho0) hb); have n1_ := Aside0.mk (Kd.R_lower (Kd.R_new' ho0 (Kd.R_lt (by (with_reducible repeat (first | apply Kd.R_alloc | apply Kd.R_drewN | apply Kd.R_drew)); exact (Kd.R_mono (Kd.R_far (p := ⟨gb134, 1, none⟩) (Kd.R_far (p := ⟨gb134, 0, none⟩) (Kd.R_types HO131.out BK134.out (by decide)) (fun _ hk => hk.2) (.int .i64 t132)) (fun _ hk => hk.2) (.int .i64 t133)) (fun _ h_ => h_.1))))) (below_size (by repeat (first | (with_reducible first | exact HB.out | apply below_alloc | apply pw_below_drewN | apply below_drew1 | refine below_set ?_ GE134.out) | exact HB.out)))); have n2_ := Aside0.mk (blk_below (g := gb134) (o := .cells #[.int .i64 t132, .int .i64 t133] 26 (0, 0)) (by (with_reducible repeat (first | refine blk_drewN ?_ _ | refine blk_drew ?_ | refine blk_alloc ?_ _)); refine blk_put (cs := #[.int .i64 t132, .int .i64 0]) ?_ 1 _ rfl; (with_reducible repeat (first | refine blk_drewN ?_ _ | refine blk_drew ?_ | refine blk_alloc ?_ _)); refine blk_put (cs := #[.int .i64 0, .int .i64 0]) ?_ 0 _ rfl; (with_reducible repeat (first | refine blk_drewN ?_ _ | refine blk_drew ?_ | refine blk_alloc ?_ _)); exact BK134.out) hb); have n3_ := Aside0.mk (below_step (by repeat (first | (with_reducible first | exact HB.out | apply below_alloc | apply pw_below_drewN | apply below_drew1 | refine below_set ?_ GE134.out) | exact HB.out)) hb); clear HO131; clear BK134; clear HB; have HO131 := n0_; have HO139 := n1_; have BK134 := n2_; have HB := n3_; clear n0_ n1_ n2_ n3_; (try clear hb); (try clear hb2); (try clear hk); (try clear hi); (try clear ho0); obtain ⟨Ao22, co22, eo22⟩ := Kd.R_slice HO131.out; subst eo22; obtain ⟨Ao23, co23, eo23⟩ := Kd.R_slice HO139.out; subst eo23) | ((with_reducible refine gate_callee (f := 11) rfl ?_); refine goesL_ (some 23) rfl rfl Tryd.func11 (by kernel_rfl) rfl #[.slice Ao22 t129.length co22, .slice Ao23 t135.length co23] rfl (by (try simp only [List.map_toArray, List.map_cons, List.map_nil]); first | done | rfl | (simp only [List.length_drop, List.length_take]; rfl)) ?_; (with_reducible refine (depotlaw05_alike.calls k _ _ t129 _ _ t135 true _ ?side1 ?side2 ?side3 ?side4 A6.out).mono ?_); (case side1 => repeat (first | exact (Kd.R_reads' HO131.out).2.2 | (with_reducible refine Kd.C_alloc ?_ _) | (with_reducible refine Kd.C_drewN ?_ _) | (with_reducible refine Kd.C_drew ?_))); (case side2 => exact (Kd.R_reads' HO131.out).2.1); (case side3 => repeat (first | exact (Kd.R_reads' HO139.out).2.2 | (with_reducible refine Kd.C_alloc ?_ _) | (with_reducible refine Kd.C_drewN ?_ _) | (with_reducible refine Kd.C_drew ?_))); (case side4 => exact (Kd.R_reads' HO139.out).2.1); rintro e w' ⟨rfl, ⟨nd, rfl⟩⟩; refine ⟨_, rfl, ?_⟩; have hcz24_0 : w21.cell? ⟨gb134, 0, none⟩ = some (.int .i64 t132) := (blk_cell BK134.out 0).trans rfl; have hcz24_1 : w21.cell? ⟨gb134, 1, none⟩ = some (.int .i64 t133) := (blk_cell BK134.out 1).trans rfl; have hfz24_0 := blk_frozen BK134.out 0; have hfz24_1 := blk_frozen BK134.out 1))
        go_ret
        exact ⟨by first | rfl | (simp [errW_none, errW_some] <;> rfl) | (simp [*, errW_none, errW_some] <;> rfl), by repeat (first | (with_reducible first | exact HB.out | apply below_alloc | apply pw_below_drewN | apply below_drew1 | refine below_set ?_ GE134.out) | exact HB.out)⟩
    · replace c7 := Bool.eq_false_iff.mpr c7
      subst c7
      have H1 : (some false) = some r := by rw [if_neg (show ¬ (false = true) by decide)] at H; exact H
      clear H
      have H := H1
      clear H1
      obtain rfl := Option.some.inj H
      go_enter Tryd.func3, Tryd.ntmps3
      go_wp2_with (first | ((with_reducible refine gate_callee (f := 8) rfl ?_); refine goesL_ (some 8) rfl rfl Tryd.func8 (by kernel_rfl) rfl #[] rfl (by (try simp only [List.map_toArray, List.map_cons, List.map_nil]); first | done | rfl | (simp only [List.length_drop, List.length_take]; rfl)) ?_; (with_reducible refine (depotlaw05_awake.calls k  true _ A2.out).mono ?_); rintro e w25 ⟨rfl, hb⟩; refine ⟨_, rfl, ?_⟩; have n0_ := Aside0.mk (below_step (by repeat (first | (with_reducible first | exact HB.out | apply below_alloc | apply pw_below_drewN | apply below_drew1) | exact HB.out)) hb); clear HB; have HB := n0_; clear n0_; (try clear hb); (try clear hb2); (try clear hk); (try clear hi)) | ((with_reducible refine gate_callee (f := 9) rfl ?_); refine goesL_ (some 12) rfl rfl Tryd.func9 (by kernel_rfl) rfl #[.string a0] rfl (by (try simp only [List.map_toArray, List.map_cons, List.map_nil]); first | done | rfl | (simp only [List.length_drop, List.length_take]; rfl)) ?_; (with_reducible refine (name_Split.calls a0 t129 t132 t133 _ A4.out).mono ?_); rintro e w26 ⟨v130, rfl, ho0, hb⟩; refine ⟨_, rfl, ?_⟩; have n0_ := Aside0.mk (Kd.R_lower ho0 (below_size (by repeat (first | (with_reducible first | exact HB.out | apply below_alloc | apply pw_below_drewN | apply below_drew1) | exact HB.out)))); have n1_ := Aside0.mk (below_step (by repeat (first | (with_reducible first | exact HB.out | apply below_alloc | apply pw_below_drewN | apply below_drew1) | exact HB.out)) hb); clear HB; have HO131 := n0_; have HB := n1_; clear n0_ n1_; (try clear hb); (try clear hb2); (try clear hk); (try clear hi); (try clear ho0)) | ((with_reducible refine gate_dst (N := 4) rfl ?_); refine box_event ?hg (N := 4) ?hd (cs := #[.int .i64 0, .int .i64 0]) (t := 26) ?hr ?_; (case hd => rfl); (case hg => rfl); (case hr => first | (go_simp; done) | (go_simp; rfl)); intro gb134 hg w27 hbox hb; have n0_ := Aside0.mk (Kd.R_below (by (with_reducible repeat (first | apply Kd.R_alloc | apply Kd.R_drewN | apply Kd.R_drew)); exact HO131.out) hb); have n1_ := Aside0.mk (below_step (by repeat (first | (with_reducible first | exact HB.out | apply below_alloc | apply pw_below_drewN | apply below_drew1) | exact HB.out)) hb); have n2_ := Aside0.mk (hbox); have n3_ := Aside0.mk ((by rw [hg]; exact (below_size (by repeat (first | (with_reducible first | exact HB.out | apply below_alloc | apply pw_below_drewN | apply below_drew1) | exact HB.out))) : w.heap.size ≤ gb134)); have n4_ := Aside0.mk ((by rw [hg]; exact (below_size (by repeat (first | (with_reducible first | exact HB.out | apply below_alloc | apply pw_below_drewN | apply below_drew1) | exact HB.out))) : w.heap.size ≤ gb134)); clear HO131; clear HB; have HO131 := n0_; have HB := n1_; have BK134 := n2_; have GW134 := n3_; have GE134 := n4_; clear n0_ n1_ n2_ n3_ n4_; clear hb hbox hg; have hcz28_0 : w27.cell? ⟨gb134, 0, none⟩ = some (.int .i64 0) := (blk_cell BK134.out 0).trans rfl; have hcz28_1 : w27.cell? ⟨gb134, 1, none⟩ = some (.int .i64 0) := (blk_cell BK134.out 1).trans rfl; have hfz28_0 := blk_frozen BK134.out 0; have hfz28_1 := blk_frozen BK134.out 1) | ((with_reducible refine gate_callee (f := 10) rfl ?_); refine goesL_ (some 17) rfl rfl Tryd.func10 (by kernel_rfl) rfl #[.string a0] rfl (by (try simp only [List.map_toArray, List.map_cons, List.map_nil]); first | done | rfl | (simp only [List.length_drop, List.length_take]; rfl)) ?_; (with_reducible refine (depotref05_Split.calls k a0 t135 t136 t137 _ A5.out).mono ?_); rintro e w29 ⟨v138, rfl, ho0, hb⟩; refine ⟨_, rfl, ?_⟩; have n0_ := Aside0.mk (Kd.R_elder' (by (with_reducible repeat (first | apply Kd.R_alloc | apply Kd.R_drewN | apply Kd.R_drew)); exact (Kd.R_mono (Kd.R_far (p := ⟨gb134, 1, none⟩) (Kd.R_far (p := ⟨gb134, 0, none⟩) (Kd.R_types HO131.out BK134.out (by decide)) (fun _ hk => hk.2) (.int .i64 t132)) (fun _ hk => hk.2) (.int .i64 t133)) (fun _ h_ => h_.1))) (Kd.R_base ho0) hb); have n1_ := Aside0.mk (Kd.R_lower (Kd.R_new' ho0 (Kd.R_lt (by (with_reducible repeat (first | apply Kd.R_alloc | apply Kd.R_drewN | apply Kd.R_drew)); exact (Kd.R_mono (Kd.R_far (p := ⟨gb134, 1, none⟩) (Kd.R_far (p := ⟨gb134, 0, none⟩) (Kd.R_types HO131.out BK134.out (by decide)) (fun _ hk => hk.2) (.int .i64 t132)) (fun _ hk => hk.2) (.int .i64 t133)) (fun _ h_ => h_.1))))) (below_size (by repeat (first | (with_reducible first | exact HB.out | apply below_alloc | apply pw_below_drewN | apply below_drew1 | refine below_set ?_ GE134.out) | exact HB.out)))); have n2_ := Aside0.mk (blk_below (g := gb134) (o := .cells #[.int .i64 t132, .int .i64 t133] 26 (0, 0)) (by (with_reducible repeat (first | refine blk_drewN ?_ _ | refine blk_drew ?_ | refine blk_alloc ?_ _)); refine blk_put (cs := #[.int .i64 t132, .int .i64 0]) ?_ 1 _ rfl; (with_reducible repeat (first | refine blk_drewN ?_ _ | refine blk_drew ?_ | refine blk_alloc ?_ _)); refine blk_put (cs := #[.int .i64 0, .int .i64 0]) ?_ 0 _ rfl; (with_reducible repeat (first | refine blk_drewN ?_ _ | refine blk_drew ?_ | refine blk_alloc ?_ _)); exact BK134.out) hb); have n3_ := Aside0.mk (below_step (by repeat (first | (with_reducible first | exact HB.out | apply below_alloc | apply pw_below_drewN | apply below_drew1 | refine below_set ?_ GE134.out) | exact HB.out)) hb); clear HO131; clear BK134; clear HB; have HO131 := n0_; have HO139 := n1_; have BK134 := n2_; have HB := n3_; clear n0_ n1_ n2_ n3_; (try clear hb); (try clear hb2); (try clear hk); (try clear hi); (try clear ho0); obtain ⟨Ao30, co30, eo30⟩ := Kd.R_slice HO131.out; subst eo30; obtain ⟨Ao31, co31, eo31⟩ := Kd.R_slice HO139.out; subst eo31) | ((with_reducible refine gate_callee (f := 11) rfl ?_); refine goesL_ (some 23) rfl rfl Tryd.func11 (by kernel_rfl) rfl #[.slice Ao30 t129.length co30, .slice Ao31 t135.length co31] rfl (by (try simp only [List.map_toArray, List.map_cons, List.map_nil]); first | done | rfl | (simp only [List.length_drop, List.length_take]; rfl)) ?_; (with_reducible refine (depotlaw05_alike.calls k _ _ t129 _ _ t135 false _ ?side1 ?side2 ?side3 ?side4 A6.out).mono ?_); (case side1 => repeat (first | exact (Kd.R_reads' HO131.out).2.2 | (with_reducible refine Kd.C_alloc ?_ _) | (with_reducible refine Kd.C_drewN ?_ _) | (with_reducible refine Kd.C_drew ?_))); (case side2 => exact (Kd.R_reads' HO131.out).2.1); (case side3 => repeat (first | exact (Kd.R_reads' HO139.out).2.2 | (with_reducible refine Kd.C_alloc ?_ _) | (with_reducible refine Kd.C_drewN ?_ _) | (with_reducible refine Kd.C_drew ?_))); (case side4 => exact (Kd.R_reads' HO139.out).2.1); rintro e w' ⟨rfl, ⟨nd, rfl⟩⟩; refine ⟨_, rfl, ?_⟩))
      go_ret
      exact ⟨by first | rfl | (simp [errW_none, errW_some] <;> rfl) | (simp [*, errW_none, errW_some] <;> rfl), by repeat (first | (with_reducible first | exact HB.out | apply below_alloc | apply pw_below_drewN | apply below_drew1 | refine below_set ?_ GE134.out) | exact HB.out)⟩
  · replace c3 := Bool.eq_false_iff.mpr c3
    subst c3
    have H1 : (some false) = some r := by rw [if_neg (show ¬ (false = true) by decide)] at H; exact H
    clear H
    have H := H1
    clear H1
    obtain rfl := Option.some.inj H
    go_enter Tryd.func3, Tryd.ntmps3
    go_wp2_with (first | ((with_reducible refine gate_callee (f := 8) rfl ?_); refine goesL_ (some 8) rfl rfl Tryd.func8 (by kernel_rfl) rfl #[] rfl (by (try simp only [List.map_toArray, List.map_cons, List.map_nil]); first | done | rfl | (simp only [List.length_drop, List.length_take]; rfl)) ?_; (with_reducible refine (depotlaw05_awake.calls k  false _ A2.out).mono ?_); rintro e w32 ⟨rfl, hb⟩; refine ⟨_, rfl, ?_⟩; have n0_ := Aside0.mk (below_step (by repeat (first | (with_reducible first | exact HB.out | apply below_alloc | apply pw_below_drewN | apply below_drew1) | exact HB.out)) hb); clear HB; have HB := n0_; clear n0_; (try clear hb); (try clear hb2); (try clear hk); (try clear hi)))
    go_ret
    exact ⟨by first | rfl | (simp [errW_none, errW_some] <;> rfl) | (simp [*, errW_none, errW_some] <;> rfl), by repeat (first | (with_reducible first | exact HB.out | apply below_alloc | apply pw_below_drewN | apply below_drew1) | exact HB.out)⟩

/-- THE ONE PURE STATEMENT of depotlaw05_NameSplits: yours. -/
def depotlaw05_NameSplits.Pure : Prop := ∀ (a0 : ByteArray), a0.size ≤ 140737488351232 → ∃ k, depotlaw05_NameSplits.f k a0 = some true
theorem depotlaw05_NameSplits.walk (P : depotlaw05_NameSplits.Pure) (a0 : ByteArray) (w : World) (w0 : a0.size ≤ 140737488351232) :
    Calls Tryd.prog 3 #[.string a0] w fun e w' => e = .returned (.bool true) ∧ Below w.heap.size w w' := by
  obtain ⟨k, h⟩ := P a0 w0
  refine (depotlaw05_NameSplits.calls k a0 true w h).mono ?_
  rintro e w' ⟨rfl, hd⟩
  exact ⟨rfl, hd⟩

end Go.Proofs.YtabgpdpdgkgmbaaDoor.Q
/- The plain law of Split: the program's and the document's answers are the same. -/
set_option linter.unusedVariables false
set_option linter.unusedSimpArgs false
namespace Go.Proofs.YtabgpdpdgkgmbaaDoor.NamePure
open Go.RowKit Go.Proofs.YtabgpdpdgkgmbaaDoor.Q Go.Proofs.YtabgpdpdgkgmbaaDoor.Loop Go.Proofs.YtabgpdpdgkgmbaaDoorW.PrintWords Go.Proofs.YtabgpdpdgkgmbaaDoorW.PrintLast Go.Proofs.YtabgpdpdgkgmbaaDoor.Bytes

theorem rd_nat (xs : List ByteArray) (i : Nat) (h : i < xs.length) : rdOf ByteArray.empty xs (i : Int) = xs[i] := by
  simp [rdOf, List.getD_eq_getElem?_getD, List.getElem?_eq_getElem h]

theorem alike_l0 (xs ys : List ByteArray) (hl : xs.length = ys.length) (hx : xs.length ≤ 140737488355328) (d : Nat) : ∀ (i k : Nat), xs.length - i = d → d < k →
    depotlaw05_alike.l0 k xs ys (xs.length : Int) (i : Int) = some (decide (xs.drop i = ys.drop i)) := by
  induction d with
  | zero =>
    intro i k hd hk
    obtain ⟨k, rfl⟩ : ∃ m, k = m + 1 := ⟨k - 1, by omega⟩
    simp only [depotlaw05_alike.l0]
    rw [if_neg (by omega), List.drop_of_length_le (by omega), List.drop_of_length_le (by omega)]
    rfl
  | succ d ih =>
    intro i k hd hk
    obtain ⟨k, rfl⟩ : ∃ m, k = m + 1 := ⟨k - 1, by omega⟩
    have hi : i < xs.length := by omega
    have hi2 : i < ys.length := by omega
    simp only [depotlaw05_alike.l0]
    rw [if_pos (by omega), if_pos (by omega), if_pos (by omega), if_pos (by omega), rd_nat _ _ hi, rd_nat _ _ hi2, List.drop_eq_getElem_cons hi, List.drop_eq_getElem_cons hi2]
    by_cases h : xs[i] = ys[i]
    · rw [if_pos (by rw [h]), wr i (by omega), ih (i + 1) k (by omega) (by omega), h]
      simp only [List.cons.injEq, true_and]
    · rw [if_neg (fun e => h (bs_inj (by rw [← toList_bs, ← toList_bs]; exact e)))]
      rw [decide_eq_false (fun e => h (List.cons.inj e).1)]
theorem alike_f (xs ys : List ByteArray) (hx : xs.length ≤ 140737488355328) (k : Nat) (hk : xs.length < k) : depotlaw05_alike.f k xs ys = some (decide (xs = ys)) := by
  unfold depotlaw05_alike.f
  by_cases hl : xs.length = ys.length
  · rw [if_pos (by omega)]
    have := alike_l0 xs ys hl hx xs.length 0 k (by omega) hk
    rw [List.drop_zero, List.drop_zero] at this
    exact this
  · rw [if_neg (by omega)]
    simp [show ¬ xs = ys from fun e => hl (by rw [e])]

theorem split_f (a : ByteArray) (h : a.size ≤ 140737488355328) : name_Split.f a = some (if bs a = [] then ([], 0, 0) else takeNames (piecesOf a) [] 0) := by
  unfold name_Split.f
  rw [if_pos h]
  split <;> rfl

/-- The text from a place on, in pieces. -/
def tailPieces (a : ByteArray) (i : Nat) : List ByteArray := (cutAt 47 ((bs a).drop i)).map (fun l => (⟨l.toArray⟩ : ByteArray))
theorem piece_eq (a : ByteArray) (i j : Nat) : a.extract i j = (⟨(((bs a).drop i).take (j - i)).toArray⟩ : ByteArray) := bs_inj (by rw [bs_extract]; exact (bs_mk _).symm)
theorem tail_stop (a : ByteArray) (frm i : Nat) (h1 : frm ≤ i) (hi : i < (bs a).length) (hno : (47 : UInt8) ∉ ((bs a).drop frm).take (i - frm)) (hc : (bs a)[i] = 47) :
    tailPieces a frm = a.extract frm i :: tailPieces a (i + 1) := by
  unfold tailPieces
  have e : (bs a).drop frm = ((bs a).drop frm).take (i - frm) ++ 47 :: (bs a).drop (i + 1) := by
    conv => lhs; rw [← List.take_append_drop (i - frm) ((bs a).drop frm)]
    congr 1
    rw [List.drop_drop, show frm + (i - frm) = i by omega, List.drop_eq_getElem_cons hi, hc]
  rw [e, cutAt_some _ _ _ hno, List.map_cons, piece_eq]
theorem tail_end (a : ByteArray) (frm : Nat) (h1 : frm ≤ (bs a).length) (hno : (47 : UInt8) ∉ ((bs a).drop frm).take ((bs a).length - frm)) :
    tailPieces a frm = [a.extract frm (bs a).length] := by
  unfold tailPieces
  rw [List.take_of_length_le (by rw [List.length_drop]; exact Nat.le_refl _)] at hno
  rw [cutAt_none _ _ hno, piece_eq, List.take_of_length_le (by rw [List.length_drop]; exact Nat.le_refl _)]
  rfl
theorem size_extract (a : ByteArray) (i j : Nat) (h1 : i ≤ j) (h2 : j ≤ (bs a).length) : (a.extract i j).size = j - i := by
  rw [size_bs, bs_extract, List.length_take, List.length_drop]
  omega

theorem ref_split (a : ByteArray) (hs : a.size ≤ 140737488351232) (d : Nat) : ∀ (i frm k : Nat) (acc : List ByteArray), (bs a).length - i = d → frm ≤ i → i ≤ (bs a).length → (47 : UInt8) ∉ ((bs a).drop frm).take (i - frm) → acc.length ≤ 31 →
    2 * d + 2 * (bs a).length + 6 ≤ k → depotref05_Split.l0 k a acc (frm : Int) (i : Int) = some (takeNames (tailPieces a frm) acc (frm : Int)) := by
  have hz := size_bs a
  induction d with
  | zero =>
    intro i frm k acc hd hf hi hno hl hk
    obtain ⟨k, rfl⟩ : ∃ m, k = m + 3 := ⟨k - 3, by omega⟩
    obtain rfl : i = (bs a).length := by omega
    rw [tail_end a frm hf hno]
    simp only [depotref05_Split.l0, depotref05_Split.j1, takeNames]
    rw [if_pos (by omega), if_neg (by omega), if_neg (by decide)]
    by_cases h31 : acc.length = 31
    · rw [if_pos (by omega), if_pos h31]
    · rw [if_neg (by omega), if_neg h31, if_pos (by omega), if_pos (by omega), if_pos (by omega), Int.toNat_natCast, Int.toNat_natCast,
        ref_check _ (by rw [← size_bs, size_extract _ _ _ hf (Nat.le_refl _)]; omega) _ (by rw [← size_bs, size_extract _ _ _ hf (Nat.le_refl _)]; omega)]
      simp only [Option.bind_some]
      by_cases hc : chk (bs (a.extract frm (bs a).length)) = 0
      · rw [if_pos hc, if_pos hc, if_pos (by omega), wr _ (by omega), if_neg (by omega)]
      · rw [if_neg hc, if_neg hc]
  | succ d ih =>
    intro i frm k acc hd hf hi hno hl hk
    obtain ⟨k, rfl⟩ : ∃ m, k = m + 2 := ⟨k - 2, by omega⟩
    have hlt : i < (bs a).length := by omega
    simp only [depotref05_Split.l0, depotref05_Split.j1]
    rw [if_pos (by omega), if_pos (by omega), if_pos (by omega), bt_lt a i hlt]
    by_cases h47 : (bs a)[i] = 47
    · rw [if_neg (by rw [h47]; decide), tail_stop a frm i hf hlt hno h47, takeNames]
      by_cases h31 : acc.length = 31
      · rw [if_pos (by omega), if_pos h31]
      · rw [if_neg (by omega), if_neg h31, if_pos (by omega), if_pos (by omega), if_pos (by omega), Int.toNat_natCast, Int.toNat_natCast,
          ref_check _ (by rw [← size_bs, size_extract _ _ _ hf hi]; omega) _ (by rw [← size_bs, size_extract _ _ _ hf hi]; omega)]
        simp only [Option.bind_some]
        by_cases hc : chk (bs (a.extract frm i)) = 0
        · have e : wrap64 ((frm : Int) + wrap64 (((a.extract frm i).size : Int) + 1)) = ((i + 1 : Nat) : Int) := by
            rw [size_extract _ _ _ hf hi, wr _ (by omega), w64 (by omega) (by omega)]
            omega
          rw [if_pos hc, if_pos hc, if_pos (by omega), wr _ (by omega), e]
          exact ih (i + 1) (i + 1) k _ (by omega) (Nat.le_refl _) (by omega) (by simp) (by simp; omega) (by omega)
        · rw [if_neg hc, if_neg hc]
    · have hb : ((((bs a)[i]).toNat : Int) != 47) = true := by rw [bne_iff_ne]; exact fun e => h47 ((byte47 _).1 e)
      rw [hb, if_pos rfl, wr _ (by omega)]
      refine ih (i + 1) frm k acc (by omega) (by omega) (by omega) ?_ hl (by omega)
      rw [show i + 1 - frm = (i - frm) + 1 by omega, List.take_add_one, List.mem_append]
      rintro (h | h)
      · exact hno h
      · rw [List.getElem?_drop, show frm + (i - frm) = i by omega, List.getElem?_eq_getElem hlt] at h
        simp at h
        exact h47 h.symm
theorem ref_split_f (a : ByteArray) (hs : a.size ≤ 140737488351232) (k : Nat) (hk : 4 * (bs a).length + 6 ≤ k) : depotref05_Split.f k a = some (if bs a = [] then ([], 0, 0) else takeNames (piecesOf a) [] 0) := by
  unfold depotref05_Split.f
  rw [toList_bs]
  split
  · rfl
  · have := ref_split a hs (bs a).length 0 0 k [] (by omega) (Nat.le_refl _) (Nat.zero_le _) (by simp) (by simp) (by omega)
    exact this

/-- What Split answers has at most 31 names. -/
theorem takes_len : ∀ (ps acc : List ByteArray) (p : Int), acc.length ≤ 31 → (takeNames ps acc p).1.length ≤ 31
  | [], acc, p, h => h
  | x :: r, acc, p, h => by
    rw [takeNames]
    split
    · simp
    · split
      · exact takes_len r _ _ (by simp; omega)
      · simp
theorem split_len (a : ByteArray) : (if bs a = [] then (([] : List ByteArray), (0 : Int), (0 : Int)) else takeNames (piecesOf a) [] 0).1.length ≤ 31 := by
  split
  · simp
  · exact takes_len _ _ _ (by simp)
end Go.Proofs.YtabgpdpdgkgmbaaDoor.NamePure
/- What name.Join answers, in plain words. -/
set_option linter.unusedVariables false
set_option linter.unusedSimpArgs false
namespace Go.Proofs.YtabgpdpdgkgmbaaDoor.NamePure
open Go.RowKit Go.Proofs.YtabgpdpdgkgmbaaDoor.Q Go.Proofs.YtabgpdpdgkgmbaaDoor.Loop Go.Proofs.YtabgpdpdgkgmbaaDoorW.PrintWords Go.Proofs.YtabgpdpdgkgmbaaDoorW.PrintLast Go.Proofs.YtabgpdpdgkgmbaaDoor.Bytes

/-- The first name that can't be joined: its fault, its place. -/
def jfault : List ByteArray → Nat → Option (Int × Nat)
  | [], _ => none
  | x :: r, i => if i = 31 then some (61, i) else if chk (bs x) = 0 then jfault r (i + 1) else some (chk (bs x), i)
/-- The names with '/' between. -/
def joinOf (l : List ByteArray) : ByteArray := ⟨(Lib.join (l.map bs) [47]).toArray⟩
def joinRes (l : List ByteArray) : ByteArray × Int × Int := match jfault l 0 with | some (c, i) => (⟨#[]⟩, c, (i : Int)) | none => (joinOf l, 0, 0)
theorem jfault_none : ∀ (l : List ByteArray) (i : Nat), jfault l i = none → i ≤ 31 → i + l.length ≤ 31 ∧ ∀ x ∈ l, chk (bs x) = 0
  | [], i, _, hi => ⟨by simpa using hi, by simp⟩
  | x :: r, i, h, hi => by
    rw [jfault] at h
    split at h
    · cases h
    · split at h
      · obtain ⟨h1, h2⟩ := jfault_none r (i + 1) h (by omega)
        refine ⟨by simp; omega, fun y hy => ?_⟩
        rcases List.mem_cons.1 hy with rfl | hy
        · assumption
        · exact h2 y hy
      · cases h
theorem jfault_of : ∀ (l : List ByteArray) (i : Nat), i + l.length ≤ 31 → (∀ x ∈ l, chk (bs x) = 0) → jfault l i = none
  | [], i, _, _ => rfl
  | x :: r, i, h, hc => by
    rw [jfault, if_neg (by simp at h; omega), if_pos (hc x List.mem_cons_self)]
    exact jfault_of r (i + 1) (by simp at h; omega) (fun y hy => hc y (List.mem_cons_of_mem _ hy))
theorem jfault_code : ∀ (l : List ByteArray) (i : Nat) (c : Int) (j : Nat), jfault l i = some (c, j) → c ≠ 0
  | [], i, c, j, h => by cases h
  | x :: r, i, c, j, h => by
    rw [jfault] at h
    split at h
    · cases h; decide
    · split at h
      · exact jfault_code r (i + 1) c j h
      · cases h; assumption
theorem chk_len {l : List UInt8} (h : chk l = 0) : l ≠ [] ∧ l.length ≤ 255 ∧ (47 : UInt8) ∉ l := by
  unfold chk at h
  split at h
  · cases h
  · rename_i h1
    split at h
    · cases h
    · rename_i h2
      split at h
      · cases h
      · rename_i h3
        exact ⟨h1, by omega, fun e => h3 (.inl e)⟩
theorem joinTail_len (sep : List UInt8) (hsep : sep.length = 1) : ∀ (r : List ByteArray), (∀ x ∈ r, (bs x).length ≤ 255) → (Lib.joinTail sep (r.map bs)).length ≤ 256 * r.length
  | [], _ => by simp [Lib.joinTail]
  | x :: r, h => by
    have h1 := joinTail_len sep hsep r (fun y hy => h y (List.mem_cons_of_mem _ hy))
    have h2 := h x List.mem_cons_self
    simp only [Lib.joinTail, List.map_cons, List.flatten_cons, List.length_append, List.length_cons] at h1 ⊢
    omega
theorem join_len (l : List ByteArray) (h : l.length ≤ 31) (hc : ∀ x ∈ l, chk (bs x) = 0) : (Lib.join (l.map bs) [47]).length ≤ 7936 := by
  cases l with
  | nil => simp [Lib.join_nil]
  | cons x r =>
    rw [List.map_cons, Lib.join_cons, List.length_append]
    have h1 := joinTail_len [47] rfl r (fun y hy => (chk_len (hc y (List.mem_cons_of_mem _ hy))).2.1)
    have h2 := (chk_len (hc x List.mem_cons_self)).2.1
    simp at h
    omega
theorem join_l0 (l : List ByteArray) (hx : l.length ≤ 140737488355328) (d : Nat) : ∀ (i k : Nat), l.length - i = d → i ≤ l.length → d < k → (∀ j : Nat, (hj : j < l.length) → j < i → chk (bs l[j]) = 0) → i ≤ 31 →
    name_Join.l0 k l l (l.length : Int) (i : Int) = some (match jfault (l.drop i) i with | some (c, i) => (⟨#[]⟩, c, (i : Int)) | none => (joinOf l, 0, 0)) := by
  induction d with
  | zero =>
    intro i k hd hi hk hc h31
    obtain ⟨k, rfl⟩ : ∃ m, k = m + 1 := ⟨k - 1, by omega⟩
    simp only [name_Join.l0]
    rw [if_neg (by omega), List.drop_of_length_le (by omega)]
    have hcl : ∀ x ∈ l, chk (bs x) = 0 := fun x hx => by
      obtain ⟨j, hj, rfl⟩ := List.getElem_of_mem hx
      exact hc j hj (by omega)
    have e : strings_Join.f l (⟨#[47]⟩ : ByteArray) = some (joinOf l) := by
      unfold strings_Join.f
      have := join_len l (by omega) hcl
      rw [if_pos ⟨hx, by show (Lib.join (l.map bs) [47]).length ≤ _; omega⟩]
      rfl
    rw [e]
    rfl
  | succ d ih =>
    intro i k hd hi hk hc h31
    obtain ⟨k, rfl⟩ : ∃ m, k = m + 1 := ⟨k - 1, by omega⟩
    have hlt : i < l.length := by omega
    simp only [name_Join.l0]
    rw [if_pos (by omega), if_pos (by omega), if_pos (by omega), rd_nat _ _ hlt, List.drop_eq_getElem_cons hlt, jfault, name_check]
    by_cases h : i = 31
    · rw [if_pos (by omega), if_pos h]
    · rw [if_neg (by omega), if_neg h]
      simp only [Option.bind_some]
      by_cases h2 : chk (bs l[i]) = 0
      · rw [if_pos h2, if_pos h2, wr i (by omega)]
        refine ih (i + 1) k (by omega) (by omega) (by omega) (fun j hj hji => ?_) (by omega)
        rcases Nat.lt_or_ge j i with hj2 | hj2
        · exact hc j hj hj2
        · obtain rfl : j = i := by omega
          exact h2
      · rw [if_neg h2, if_neg h2]
theorem join_f (l : List ByteArray) (hx : l.length ≤ 140737488355328) (k : Nat) (hk : l.length < k) : name_Join.f k l = some (joinRes l) := by
  have := join_l0 l hx l.length 0 k (by omega) (Nat.zero_le _) hk (fun j hj h => by omega) (by omega)
  rw [List.drop_zero] at this
  exact this
end Go.Proofs.YtabgpdpdgkgmbaaDoor.NamePure
/- The example that each law asks first. -/
set_option linter.unusedVariables false
set_option linter.unusedSimpArgs false
namespace Go.Proofs.YtabgpdpdgkgmbaaDoor.NamePure
open Go.RowKit Go.Proofs.YtabgpdpdgkgmbaaDoor.Q Go.Proofs.YtabgpdpdgkgmbaaDoor.Loop Go.Proofs.YtabgpdpdgkgmbaaDoorW.PrintWords Go.Proofs.YtabgpdpdgkgmbaaDoorW.PrintLast Go.Proofs.YtabgpdpdgkgmbaaDoor.Bytes
theorem awake_f (k : Nat) (hk : 10 ≤ k) : depotlaw05_awake.f k = some true := by
  unfold depotlaw05_awake.f
  have e1 : name_Split.f (⟨#[97, 47, 98, 46, 99]⟩ : ByteArray) = some ([⟨#[97]⟩, ⟨#[98, 46, 99]⟩], 0, 0) := by
    rw [split_f _ (by decide)]
    rw [if_neg (by decide)]
    have e2 : piecesOf (⟨#[97, 47, 98, 46, 99]⟩ : ByteArray) = [⟨#[97]⟩, ⟨#[98, 46, 99]⟩] := by rfl
    rw [e2, takeNames, if_neg (by decide), if_pos (by decide), takeNames, if_neg (by decide), if_pos (by decide), takeNames]
    rfl
  have e3 : name_Join.f k [(⟨#[97]⟩ : ByteArray), (⟨#[98, 46, 99]⟩ : ByteArray)] = some (⟨#[97, 47, 98, 46, 99]⟩, 0, 0) := by
    rw [join_f _ (by decide) _ (by simp; omega)]
    have e4 : jfault [(⟨#[97]⟩ : ByteArray), (⟨#[98, 46, 99]⟩ : ByteArray)] 0 = none := by decide
    unfold joinRes
    rw [e4]
    rfl
  rw [e1, e3]
  simp only [Option.bind_some, toList_bs]
  rfl
end Go.Proofs.YtabgpdpdgkgmbaaDoor.NamePure
/- NameSplits, the plain law. -/
set_option linter.unusedVariables false
set_option linter.unusedSimpArgs false
namespace Go.Proofs.YtabgpdpdgkgmbaaDoor.Pure
open Go.RowKit Go.Proofs.YtabgpdpdgkgmbaaDoor.Q Go.Proofs.YtabgpdpdgkgmbaaDoor.Loop Go.Proofs.YtabgpdpdgkgmbaaDoorW.PrintWords Go.Proofs.YtabgpdpdgkgmbaaDoorW.PrintLast Go.Proofs.YtabgpdpdgkgmbaaDoor.Bytes Go.Proofs.YtabgpdpdgkgmbaaDoor.NamePure
theorem NameSplits : depotlaw05_NameSplits.Pure := by
  intro a h
  refine ⟨4 * (bs a).length + 100, ?_⟩
  have hl := split_len a
  unfold depotlaw05_NameSplits.f
  rw [awake_f _ (by omega)]
  simp only [Option.bind_some, if_true]
  rw [split_f a (by omega), ref_split_f a h _ (by omega)]
  simp only [Option.bind_some]
  rw [alike_f _ _ (by omega) _ (by omega)]
  simp
end Go.Proofs.YtabgpdpdgkgmbaaDoor.Pure
/- A world in which the listed variables read as the row lists them: the door's own heap, the pinned table laid. -/
namespace Go.Proofs.YtabgpdpdgkgmbaaDoor.Door
open Go
set_option linter.unusedVariables false

def cellsOfData : DataW Unit → Array Value
  | .agg l => (l.map fun | .lit (.int k x) => Value.int k x | _ => undef).toArray
  | _ => #[]
/-- unicode/utf8.first's number. -/
theorem gFirst : Tryd.prog.globalNamed "unicode/utf8.first" = some 0 := by kernel_rfl
noncomputable def W0 (os : Os) : World :=
  { World.doorLaid Tryd.prog 19 os with heap := (World.doorLaid Tryd.prog 19 os).heap.modify 0 fun | .cells _ t f => .cells (cellsOfData Go.Pinned.utf8First) t f | o => o }
abbrev laid2 : List (String × DataW Unit) := Rows.nameSplitsRow.laid
theorem met (os : Os) (args : Array Value) : laidMetH Tryd.prog laid2 ((W0 os).forCall (fun _ _ => 0) ⟨#[], args, []⟩).memory :=
  laidMetH_of_parts3 (fuel := 8) (laidMet_of_run' 8 (by kernel_rfl) (by kernel_rfl)) (by kernel_rfl) (by kernel_rfl)
theorem shaped (os : Os) (args : Array Value) : ((W0 os).forCall (fun _ _ => 0) ⟨#[], args, []⟩).Shaped Tryd.prog := World.shaped_of_RefB (by kernel_rfl) (by kernel_rfl)
end Go.Proofs.YtabgpdpdgkgmbaaDoor.Door
