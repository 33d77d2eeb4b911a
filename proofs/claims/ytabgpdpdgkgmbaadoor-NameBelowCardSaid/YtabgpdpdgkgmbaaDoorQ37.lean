/- By a program of this session's: a plain Lean function for a Go function, and its contract. -/
import Derived.Test.YtabgpdpdgkgmbaaDoorQ0
import Derived.Test.YtabgpdpdgkgmbaaDoorQ11
import Derived.Test.YtabgpdpdgkgmbaaDoorQ22
import Derived.Test.YtabgpdpdgkgmbaaDoorQ25
import Derived.Test.YtabgpdpdgkgmbaaDoorQ36
import Derived.Test.YtabgpdpdgkgmbaaDoorExtNameSplit
namespace Go.Proofs.YtabgpdpdgkgmbaaDoor.Q
open Go.RowKit Go.Proofs.YtabgpdpdgkgmbaaDoorW.PrintWords Go.Proofs.YtabgpdpdgkgmbaaDoorW.PrintLast Go.Proofs.YtabgpdpdgkgmbaaDoorW.PrintMore
attribute [local go_sem] max2_int min2_int max_two min_two max_three min_three max_four min_four Go.Proofs.YtabgpdpdgkgmbaaDoor.Ord.str_leq Go.Proofs.YtabgpdpdgkgmbaaDoor.Ord.str_gtr Go.Proofs.YtabgpdpdgkgmbaaDoor.Ord.str_geq   -- for this text's walks alone
set_option linter.unusedVariables false
set_option linter.unusedSimpArgs false

/-! ### depotlaw05_NameBelow: function 7 -/
mutual
def depotlaw05_NameBelow.l0 : Nat → ByteArray → ByteArray → List ByteArray → List ByteArray → List ByteArray → Int → Int → Int → Int → Int → Int → Option (Bool)
  | 0, _, _, _, _, _, _, _, _, _, _, _ => none
  | k + 1, x0, x1, x5, x7, x24, x25, x26, x199000, x199001, x205000, x205001 => if x26 < x25 then (if 0 ≤ x26 then (if x26 < (x24.length : Int) then ((name_Check.f (rdOf ByteArray.empty x24 x26)).bind fun t206 => (if t206 = 0 then (depotlaw05_NameBelow.l0 k x0 x1 x5 x7 x24 x25 (wrap64 (x26 + 1)) x199000 x199001 x205000 x205001) else (some false))) else (none)) else (none)) else (if x199000 = 0 then (depotlaw05_NameBelow.j1 k x0 x1 x5 x7 (x205000 != 0)) else (depotlaw05_NameBelow.j1 k x0 x1 x5 x7 true))
def depotlaw05_NameBelow.j1 : Nat → ByteArray → ByteArray → List ByteArray → List ByteArray → Bool → Option (Bool)
  | 0, _, _, _, _, _ => none
  | k + 1, x0, x1, x5, x7, x41 => if x41 = true then (some true) else (if (x5.length : Int) ≥ (x7.length : Int) then (if 0 ≤ (mn (x5.length : Int) (x7.length : Int)) then (if (mn (x5.length : Int) (x7.length : Int)) ≤ (x5.length : Int) then ((depotlaw05_alike.f k (x5.take ((mn (x5.length : Int) (x7.length : Int)) : Int).toNat) x7).bind fun t211 => ((name_Under.f x0 x1).bind fun t212 => (some (t212 == t211)))) else (none)) else (none)) else ((name_Under.f x0 x1).bind fun t213 => (some (t213 == false))))
end
def depotlaw05_NameBelow.f (k : Nat) (a0 : ByteArray) (a1 : ByteArray) : Option (Bool) := (depotlaw05_awake.f k).bind fun t192 => (if t192 = true then ((name_Split.f a0).bind fun bt193 => ((name_Split.f a1).bind fun bt199 => (depotlaw05_NameBelow.l0 k a0 a1 bt193.1 bt199.1 bt193.1 (bt193.1.length : Int) 0 bt193.2.1 bt193.2.2 bt199.2.1 bt199.2.2))) else (some false))
theorem depotlaw05_NameBelow.mono_l : ∀ k, (∀ y0 y1 y2 y3 y4 y5 y6 y7 y8 y9 y10, LeO (depotlaw05_NameBelow.l0 k y0 y1 y2 y3 y4 y5 y6 y7 y8 y9 y10) (depotlaw05_NameBelow.l0 (k + 1) y0 y1 y2 y3 y4 y5 y6 y7 y8 y9 y10)) ∧ (∀ y0 y1 y2 y3 y4, LeO (depotlaw05_NameBelow.j1 k y0 y1 y2 y3 y4) (depotlaw05_NameBelow.j1 (k + 1) y0 y1 y2 y3 y4))
  | 0 => ⟨fun _ _ _ _ _ _ _ _ _ _ _ r h => by simp [depotlaw05_NameBelow.l0] at h, fun _ _ _ _ _ r h => by simp [depotlaw05_NameBelow.j1] at h⟩
  | k + 1 => by
    obtain ⟨ih0, ih1⟩ := depotlaw05_NameBelow.mono_l k
    refine ⟨?_, ?_⟩
    · intro y0 y1 y2 y3 y4 y5 y6 y7 y8 y9 y10
      unfold depotlaw05_NameBelow.l0
      repeat' first
      | (with_reducible exact ih0 _ _ _ _ _ _ _ _ _ _ _)
      | (with_reducible exact ih1 _ _ _ _ _)
      | (with_reducible exact depotlaw05_alike.mono _ _ _)
      | (with_reducible exact depotlaw05_awake.mono _)
      | (with_reducible exact LeO.refl _)
      | (with_reducible exact LeO.none _)
      | (with_reducible refine LeO.ite ?_ ?_)
      | (with_reducible refine LeO.bind ?_ (fun _ => ?_))
      | exact ih0 _ _ _ _ _ _ _ _ _ _ _
      | exact ih1 _ _ _ _ _
      | exact depotlaw05_alike.mono _ _ _
      | exact depotlaw05_awake.mono _
      | exact LeO.none _
      | refine LeO.ite ?_ ?_
      | refine LeO.bind ?_ (fun _ => ?_)
    · intro y0 y1 y2 y3 y4
      unfold depotlaw05_NameBelow.j1
      repeat' first
      | (with_reducible exact ih0 _ _ _ _ _ _ _ _ _ _ _)
      | (with_reducible exact ih1 _ _ _ _ _)
      | (with_reducible exact depotlaw05_alike.mono _ _ _)
      | (with_reducible exact depotlaw05_awake.mono _)
      | (with_reducible exact LeO.refl _)
      | (with_reducible exact LeO.none _)
      | (with_reducible refine LeO.ite ?_ ?_)
      | (with_reducible refine LeO.bind ?_ (fun _ => ?_))
      | exact ih0 _ _ _ _ _ _ _ _ _ _ _
      | exact ih1 _ _ _ _ _
      | exact depotlaw05_alike.mono _ _ _
      | exact depotlaw05_awake.mono _
      | exact LeO.none _
      | refine LeO.ite ?_ ?_
      | refine LeO.bind ?_ (fun _ => ?_)
theorem depotlaw05_NameBelow.mono : ∀ a0 a1 k, LeO (depotlaw05_NameBelow.f k a0 a1) (depotlaw05_NameBelow.f (k + 1) a0 a1) := by
  intro a0 a1 k
  obtain ⟨ih0, ih1⟩ := depotlaw05_NameBelow.mono_l k
  unfold depotlaw05_NameBelow.f
  repeat' first
      | (with_reducible exact ih0 _ _ _ _ _ _ _ _ _ _ _)
      | (with_reducible exact ih1 _ _ _ _ _)
      | (with_reducible exact depotlaw05_alike.mono _ _ _)
      | (with_reducible exact depotlaw05_awake.mono _)
      | (with_reducible exact LeO.refl _)
      | (with_reducible exact LeO.none _)
      | (with_reducible refine LeO.ite ?_ ?_)
      | (with_reducible refine LeO.bind ?_ (fun _ => ?_))
      | exact ih0 _ _ _ _ _ _ _ _ _ _ _
      | exact ih1 _ _ _ _ _
      | exact depotlaw05_alike.mono _ _ _
      | exact depotlaw05_awake.mono _
      | exact LeO.none _
      | refine LeO.ite ?_ ?_
      | refine LeO.bind ?_ (fun _ => ?_)
set_option maxHeartbeats 8000000 in
set_option maxRecDepth 100000 in
theorem depotlaw05_NameBelow.calls (k : Nat) (a0 : ByteArray) (a1 : ByteArray) (r : Bool) (w : World) (h : depotlaw05_NameBelow.f k a0 a1 = some r) :
    Calls Tryd.prog 7 #[.string a0, .string a1] w fun e w' => e = .returned (.bool r) ∧ Below w.heap.size w w' := by
  have hu26 := Tryd.underlying26
  have HB := Aside0.mk (Below.refl w.heap.size w)
  have H : ((depotlaw05_awake.f k).bind fun t192 => (if t192 = true then ((name_Split.f a0).bind fun bt193 => ((name_Split.f a1).bind fun bt199 => (depotlaw05_NameBelow.l0 k a0 a1 bt193.1 bt199.1 bt193.1 (bt193.1.length : Int) 0 bt193.2.1 bt193.2.2 bt199.2.1 bt199.2.2))) else (some false))) = some r := h
  clear h
  replace H := Option.bind_eq_some_iff.mp H
  obtain ⟨t192, A30, H⟩ := H
  replace H : (if t192 = true then ((name_Split.f a0).bind fun bt193 => ((name_Split.f a1).bind fun bt199 => (depotlaw05_NameBelow.l0 k a0 a1 bt193.1 bt199.1 bt193.1 (bt193.1.length : Int) 0 bt193.2.1 bt193.2.2 bt199.2.1 bt199.2.2))) else (some false)) = some r := H
  have A3 := Aside0.mk A30
  clear A30
  by_cases c4 : t192 = true
  · subst c4
    have H1 : ((name_Split.f a0).bind fun bt193 => ((name_Split.f a1).bind fun bt199 => (depotlaw05_NameBelow.l0 k a0 a1 bt193.1 bt199.1 bt193.1 (bt193.1.length : Int) 0 bt193.2.1 bt193.2.2 bt199.2.1 bt199.2.2))) = some r := by rw [if_pos rfl] at H; exact H
    clear H
    have H := H1
    clear H1
    replace H := Option.bind_eq_some_iff.mp H
    obtain ⟨⟨t193, t196, t197⟩, A50, H⟩ := H
    replace H : ((name_Split.f a1).bind fun bt199 => (depotlaw05_NameBelow.l0 k a0 a1 t193 bt199.1 t193 (t193.length : Int) 0 t196 t197 bt199.2.1 bt199.2.2)) = some r := H
    have A5 := Aside0.mk A50
    clear A50
    replace H := Option.bind_eq_some_iff.mp H
    obtain ⟨⟨t199, t202, t203⟩, A60, H⟩ := H
    replace H : (depotlaw05_NameBelow.l0 k a0 a1 t193 t199 t193 (t193.length : Int) 0 t196 t197 t202 t203) = some r := H
    have A6 := Aside0.mk A60
    clear A60
    have H' := Aside0.mk H
    clear H
    go_enter Tryd.func7, Tryd.ntmps7
    go_wp2_with (first | ((with_reducible refine gate_callee (f := 8) rfl ?_); refine goesL_ (some 12) rfl rfl Tryd.func8 (by kernel_rfl) rfl #[] rfl (by (try simp only [List.map_toArray, List.map_cons, List.map_nil]); first | done | rfl | (simp only [List.length_drop, List.length_take]; rfl)) ?_; (with_reducible refine (depotlaw05_awake.calls k  true _ A3.out).mono ?_); rintro e w7 ⟨rfl, hb⟩; refine ⟨_, rfl, ?_⟩; have n0_ := Aside0.mk (below_step (by repeat (first | (with_reducible first | exact HB.out | apply below_alloc | apply pw_below_drewN | apply below_drew1) | exact HB.out)) hb); clear HB; have HB := n0_; clear n0_; (try clear hb); (try clear hb2); (try clear hk); (try clear hi)) | ((with_reducible refine gate_callee (f := 9) rfl ?_); refine goesL_ (some 16) rfl rfl Tryd.func9 (by kernel_rfl) rfl #[.string a0] rfl (by (try simp only [List.map_toArray, List.map_cons, List.map_nil]); first | done | rfl | (simp only [List.length_drop, List.length_take]; rfl)) ?_; (with_reducible refine (name_Split.calls a0 t193 t196 t197 _ A5.out).mono ?_); rintro e w8 ⟨v194, rfl, ho0, hb⟩; refine ⟨_, rfl, ?_⟩; have n0_ := Aside0.mk (Kd.R_lower ho0 (below_size (by repeat (first | (with_reducible first | exact HB.out | apply below_alloc | apply pw_below_drewN | apply below_drew1) | exact HB.out)))); have n1_ := Aside0.mk (below_step (by repeat (first | (with_reducible first | exact HB.out | apply below_alloc | apply pw_below_drewN | apply below_drew1) | exact HB.out)) hb); clear HB; have HO195 := n0_; have HB := n1_; clear n0_ n1_; (try clear hb); (try clear hb2); (try clear hk); (try clear hi); (try clear ho0)) | ((with_reducible refine gate_dst (N := 6) rfl ?_); (try (refine gate_guard (by rfl) ?_; dsimp only)); refine box_event ?hg (N := 6) ?hd (cs := #[.int .i64 0, .int .i64 0]) (t := 26) ?hr ?_; (case hd => rfl); (case hg => rfl); (case hr => first | (go_simp; done) | (go_simp; rfl)); intro gb198 hg w9 hbox hb; have n0_ := Aside0.mk (Kd.R_below (by (with_reducible repeat (first | apply Kd.R_alloc | apply Kd.R_drewN | apply Kd.R_drew)); exact HO195.out) hb); have n1_ := Aside0.mk (below_step (by repeat (first | (with_reducible first | exact HB.out | apply below_alloc | apply pw_below_drewN | apply below_drew1) | exact HB.out)) hb); have n2_ := Aside0.mk (hbox); have n3_ := Aside0.mk ((by rw [hg]; exact (below_size (by repeat (first | (with_reducible first | exact HB.out | apply below_alloc | apply pw_below_drewN | apply below_drew1) | exact HB.out))) : w.heap.size ≤ gb198)); have n4_ := Aside0.mk ((by rw [hg]; exact (below_size (by repeat (first | (with_reducible first | exact HB.out | apply below_alloc | apply pw_below_drewN | apply below_drew1) | exact HB.out))) : w.heap.size ≤ gb198)); clear HO195; clear HB; have HO195 := n0_; have HB := n1_; have BK198 := n2_; have GW198 := n3_; have GE198 := n4_; clear n0_ n1_ n2_ n3_ n4_; clear hb hbox hg; have hcz10_0 : w9.cell? ⟨gb198, 0, none⟩ = some (.int .i64 0) := (blk_cell BK198.out 0).trans rfl; have hcz10_1 : w9.cell? ⟨gb198, 1, none⟩ = some (.int .i64 0) := (blk_cell BK198.out 1).trans rfl; have hfz10_0 := blk_frozen BK198.out 0; have hfz10_1 := blk_frozen BK198.out 1) | ((with_reducible refine gate_callee (f := 9) rfl ?_); refine goesL_ (some 21) rfl rfl Tryd.func9 (by kernel_rfl) rfl #[.string a1] rfl (by (try simp only [List.map_toArray, List.map_cons, List.map_nil]); first | done | rfl | (simp only [List.length_drop, List.length_take]; rfl)) ?_; (with_reducible refine (name_Split.calls a1 t199 t202 t203 _ A6.out).mono ?_); rintro e w11 ⟨v200, rfl, ho0, hb⟩; refine ⟨_, rfl, ?_⟩; have n0_ := Aside0.mk (Kd.R_elder' (by (with_reducible repeat (first | apply Kd.R_alloc | apply Kd.R_drewN | apply Kd.R_drew)); exact (Kd.R_mono (Kd.R_far (p := ⟨gb198, 1, none⟩) (Kd.R_far (p := ⟨gb198, 0, none⟩) (Kd.R_types HO195.out BK198.out (by decide)) (fun _ hk => hk.2) (.int .i64 t196)) (fun _ hk => hk.2) (.int .i64 t197)) (fun _ h_ => h_.1))) (Kd.R_base ho0) hb); have n1_ := Aside0.mk (Kd.R_lower (Kd.R_new' ho0 (Kd.R_lt (by (with_reducible repeat (first | apply Kd.R_alloc | apply Kd.R_drewN | apply Kd.R_drew)); exact (Kd.R_mono (Kd.R_far (p := ⟨gb198, 1, none⟩) (Kd.R_far (p := ⟨gb198, 0, none⟩) (Kd.R_types HO195.out BK198.out (by decide)) (fun _ hk => hk.2) (.int .i64 t196)) (fun _ hk => hk.2) (.int .i64 t197)) (fun _ h_ => h_.1))))) (below_size (by repeat (first | (with_reducible first | exact HB.out | apply below_alloc | apply pw_below_drewN | apply below_drew1 | refine below_set ?_ GE198.out) | exact HB.out)))); have n2_ := Aside0.mk (blk_below (g := gb198) (o := .cells #[.int .i64 t196, .int .i64 t197] 26 (0, 0)) (by (with_reducible repeat (first | refine blk_drewN ?_ _ | refine blk_drew ?_ | refine blk_alloc ?_ _)); refine blk_put (cs := #[.int .i64 t196, .int .i64 0]) ?_ 1 _ rfl; (with_reducible repeat (first | refine blk_drewN ?_ _ | refine blk_drew ?_ | refine blk_alloc ?_ _)); refine blk_put (cs := #[.int .i64 0, .int .i64 0]) ?_ 0 _ rfl; (with_reducible repeat (first | refine blk_drewN ?_ _ | refine blk_drew ?_ | refine blk_alloc ?_ _)); exact BK198.out) hb); have n3_ := Aside0.mk (below_step (by repeat (first | (with_reducible first | exact HB.out | apply below_alloc | apply pw_below_drewN | apply below_drew1 | refine below_set ?_ GE198.out) | exact HB.out)) hb); clear HO195; clear BK198; clear HB; have HO195 := n0_; have HO201 := n1_; have BK198 := n2_; have HB := n3_; clear n0_ n1_ n2_ n3_; (try clear hb); (try clear hb2); (try clear hk); (try clear hi); (try clear ho0)) | ((with_reducible refine gate_dst (N := 8) rfl ?_); (try (refine gate_guard (by rfl) ?_; dsimp only)); refine box_event ?hg (N := 8) ?hd (cs := #[.int .i64 0, .int .i64 0]) (t := 26) ?hr ?_; (case hd => rfl); (case hg => rfl); (case hr => first | (go_simp; done) | (go_simp; rfl)); intro gb204 hg w12 hbox hb; have n0_ := Aside0.mk (Kd.R_below (by (with_reducible repeat (first | apply Kd.R_alloc | apply Kd.R_drewN | apply Kd.R_drew)); exact HO195.out) hb); have n1_ := Aside0.mk (Kd.R_below (by (with_reducible repeat (first | apply Kd.R_alloc | apply Kd.R_drewN | apply Kd.R_drew)); exact HO201.out) hb); have n2_ := Aside0.mk (blk_below (g := gb198) (o := .cells #[.int .i64 t196, .int .i64 t197] 26 (0, 0)) (by (with_reducible repeat (first | refine blk_drewN ?_ _ | refine blk_drew ?_ | refine blk_alloc ?_ _)); exact BK198.out) hb); have n3_ := Aside0.mk (below_step (by repeat (first | (with_reducible first | exact HB.out | apply below_alloc | apply pw_below_drewN | apply below_drew1 | refine below_set ?_ GE198.out) | exact HB.out)) hb); have n4_ := Aside0.mk (hbox); have n5_ := Aside0.mk ((by rw [hg]; exact (below_size (by repeat (first | (with_reducible first | exact HB.out | apply below_alloc | apply pw_below_drewN | apply below_drew1 | refine below_set ?_ GE198.out) | exact HB.out))) : w.heap.size ≤ gb204)); have n6_ := Aside0.mk ((by rw [hg]; exact (below_size (by repeat (first | (with_reducible first | exact HB.out | apply below_alloc | apply pw_below_drewN | apply below_drew1 | refine below_set ?_ GE198.out) | exact HB.out))) : w.heap.size ≤ gb204)); have n7_ := Aside0.mk ((by rw [hg]; exact Nat.ne_of_lt (blk_lt (g := gb198) (o := .cells #[.int .i64 t196, .int .i64 t197] 26 (0, 0)) (by (with_reducible repeat (first | refine blk_drewN ?_ _ | refine blk_drew ?_ | refine blk_alloc ?_ _)); exact BK198.out)) : gb198 ≠ gb204)); have n8_ := Aside0.mk ((by rw [hg]; exact Nat.ne_of_gt (blk_lt (g := gb198) (o := .cells #[.int .i64 t196, .int .i64 t197] 26 (0, 0)) (by (with_reducible repeat (first | refine blk_drewN ?_ _ | refine blk_drew ?_ | refine blk_alloc ?_ _)); exact BK198.out)) : gb204 ≠ gb198)); clear HO195; clear HO201; clear BK198; clear HB; have HO195 := n0_; have HO201 := n1_; have BK198 := n2_; have HB := n3_; have BK204 := n4_; have GW204 := n5_; have GE204 := n6_; have NB198_204 := n7_; have NB204_198 := n8_; clear n0_ n1_ n2_ n3_ n4_ n5_ n6_ n7_ n8_; clear hb hbox hg; have hnb13 := NB204_198.out; have hnc13 := NB198_204.out; have hcz14_0 : w12.cell? ⟨gb204, 0, none⟩ = some (.int .i64 0) := (blk_cell BK204.out 0).trans rfl; have hcz14_1 : w12.cell? ⟨gb204, 1, none⟩ = some (.int .i64 0) := (blk_cell BK204.out 1).trans rfl; have hfz14_0 := blk_frozen BK204.out 0; have hfz14_1 := blk_frozen BK204.out 1; obtain ⟨Ao15, co15, eo15⟩ := Kd.R_slice HO195.out; subst eo15))
    go_loopg [26] k (fun kq v26 w' => ∃ (x26_1 : Int), v26 = .int .i64 x26_1 ∧ Aside0 (depotlaw05_NameBelow.l0 kq a0 a1 t193 t199 t193 (t193.length : Int) x26_1 t196 t197 t202 t203 = some r) ∧ Aside0 (kq ≤ k) ∧ Aside0 (Kd.R Kd.string 9 w' w.heap.size (fun k_ => some k_ ≠ (v200 : Value).ownBlock) (.slice Ao15 t193.length co15) t193) ∧ Aside0 (Kd.R Kd.string 9 w' w.heap.size (fun k_ => some k_ ≠ ((.slice Ao15 t193.length co15) : Value).ownBlock ∧ some k_ ≠ ((.slice Ao15 t193.length co15) : Value).ownBlock) v200 t199) ∧ Aside0 (Kd.R Kd.string 9 w' w.heap.size (fun k_ => some k_ ≠ (v200 : Value).ownBlock) (.slice Ao15 t193.length co15) t193) ∧ Aside0 (w'.heap[gb198]? = some (.cells #[.int .i64 t196, .int .i64 t197] 26 (0, 0))) ∧ Aside0 (w'.heap[gb204]? = some (.cells #[.int .i64 t202, .int .i64 t203] 26 (0, 0))) ∧ Aside0 (Below w.heap.size w w'))
    case atStart => exact ⟨(0), (by first | rfl | (simp; done) | (simp [*]; done)), H', ⟨Nat.le_refl _⟩, ⟨by (with_reducible repeat (first | apply Kd.R_alloc | apply Kd.R_drewN | apply Kd.R_drew)); exact Kd.R_mono (Kd.R_far (p := ⟨gb204, 1, none⟩) (Kd.R_far (p := ⟨gb204, 0, none⟩) (Kd.R_types HO195.out BK204.out (by decide)) (fun _ hk => hk.2) (.int .i64 t202)) (fun _ hk => hk.2) (.int .i64 t203)) (fun _ hk => hk.1.2)⟩, ⟨by (with_reducible repeat (first | apply Kd.R_alloc | apply Kd.R_drewN | apply Kd.R_drew)); exact Kd.R_mono (Kd.R_far (p := ⟨gb204, 1, none⟩) (Kd.R_far (p := ⟨gb204, 0, none⟩) (Kd.R_types HO201.out BK204.out (by decide)) (fun _ hk => hk.2) (.int .i64 t202)) (fun _ hk => hk.2) (.int .i64 t203)) (fun _ hk => ⟨hk.1.2, hk.1.2⟩)⟩, ⟨by (with_reducible repeat (first | apply Kd.R_alloc | apply Kd.R_drewN | apply Kd.R_drew)); exact Kd.R_mono (Kd.R_far (p := ⟨gb204, 1, none⟩) (Kd.R_far (p := ⟨gb204, 0, none⟩) (Kd.R_types HO195.out BK204.out (by decide)) (fun _ hk => hk.2) (.int .i64 t202)) (fun _ hk => hk.2) (.int .i64 t203)) (fun _ hk => hk.1.2)⟩, ⟨by (with_reducible repeat (first | refine blk_drewN ?_ _ | refine blk_drew ?_ | refine blk_alloc ?_ _)); refine blk_far ?_ NB198_204.out _; (with_reducible repeat (first | refine blk_drewN ?_ _ | refine blk_drew ?_ | refine blk_alloc ?_ _)); refine blk_far ?_ NB198_204.out _; (with_reducible repeat (first | refine blk_drewN ?_ _ | refine blk_drew ?_ | refine blk_alloc ?_ _)); exact BK198.out⟩, ⟨by (with_reducible repeat (first | refine blk_drewN ?_ _ | refine blk_drew ?_ | refine blk_alloc ?_ _)); refine blk_put (cs := #[.int .i64 t202, .int .i64 0]) ?_ 1 _ rfl; (with_reducible repeat (first | refine blk_drewN ?_ _ | refine blk_drew ?_ | refine blk_alloc ?_ _)); refine blk_put (cs := #[.int .i64 0, .int .i64 0]) ?_ 0 _ rfl; (with_reducible repeat (first | refine blk_drewN ?_ _ | refine blk_drew ?_ | refine blk_alloc ?_ _)); exact BK204.out⟩, ⟨by repeat (first | (with_reducible first | exact HB.out | apply below_alloc | apply pw_below_drewN | apply below_drew1 | refine below_set ?_ GE198.out | refine below_set ?_ GE204.out) | exact HB.out)⟩⟩
    case round =>
      clear H'
      try clear c1
      try clear p2
      try clear c4
      try clear c7
      try clear c8
      try clear c9
      try clear c13
      try clear hcz10_0
      try clear hcz10_1
      try clear hcz14_0
      try clear hcz14_1
      try clear hfz10_0
      try clear hfz10_1
      try clear hfz14_0
      try clear hfz14_1
      obtain ⟨x26_1, rfl, HA, HK1, HO_5, HO_7, HO_24, BK198, BK204, HB⟩ := hrel
      cases gk with
      | zero => exact absurd HA.out (by simp [depotlaw05_NameBelow.l0])
      | succ k1 =>
        have H := HA.out
        clear HA
        simp only [depotlaw05_NameBelow.l0] at H
        by_cases c16 : x26_1 < (t193.length : Int)
        · rw [if_pos c16] at H
          have c16b0 : decide (x26_1 < (t193.length : Int)) = true := decide_eq_true c16
          clear c16
          by_cases c17 : 0 ≤ x26_1
          · rw [if_pos c17] at H
            have c17b0 : decide (0 ≤ x26_1) = true := decide_eq_true c17
            clear c17
            by_cases c18 : x26_1 < (t193.length : Int)
            · rw [if_pos c18] at H
              have c18b0 : decide (x26_1 < (t193.length : Int)) = true := decide_eq_true c18
              clear c18
              replace H := Option.bind_eq_some_iff.mp H
              obtain ⟨t206, A190, H⟩ := H
              replace H : (if t206 = 0 then (depotlaw05_NameBelow.l0 k1 a0 a1 t193 t199 t193 (t193.length : Int) (wrap64 (x26_1 + 1)) t196 t197 t202 t203) else (some false)) = some r := H
              have A19 := Aside0.mk A190
              clear A190
              by_cases c20 : t206 = 0
              · rw [if_pos c20] at H
                have c20b0 : (t206 == 0) = true := beq_iff_eq.mpr c20
                have c20b1 : (t206 != 0) = false := bne_eq_false_iff_eq.mpr c20
                clear c20
                have H' := Aside0.mk H
                clear H
                have p205 : 0 ≤ (x26_1 : Int) := of_decide_eq_true (by first | (with_reducible assumption) | assumption)
                have q205 : x26_1 < (t193.length : Int) := of_decide_eq_true (by first | (with_reducible assumption) | assumption)
                obtain ⟨ad205, e205, hx205_0⟩ := Kd.at_string (Kd.R_reads' HO_24.out).2.2 x26_1 p205 q205
                cases e205
                replace p205 := eq_true p205
                replace q205 := eq_true q205
                go_wp2_with (first | ((with_reducible refine gate_callee (f := 16) rfl ?_); refine goesL_ (some 31) rfl rfl Tryd.func16 (by kernel_rfl) rfl #[.string (rdOf ByteArray.empty t193 x26_1)] rfl (by (try simp only [List.map_toArray, List.map_cons, List.map_nil]); first | done | rfl | (simp only [List.length_drop, List.length_take]; rfl)) ?_; (with_reducible refine (name_Check.calls (rdOf ByteArray.empty t193 x26_1) t206 _ A19.out).mono ?_); rintro e w21 ⟨rfl, hb⟩; refine ⟨_, rfl, ?_⟩; have n0_ := Aside0.mk (Kd.R_below (by (with_reducible repeat (first | apply Kd.R_alloc | apply Kd.R_drewN | apply Kd.R_drew)); exact HO_5.out) hb); have n1_ := Aside0.mk (Kd.R_below (by (with_reducible repeat (first | apply Kd.R_alloc | apply Kd.R_drewN | apply Kd.R_drew)); exact HO_7.out) hb); have n2_ := Aside0.mk (Kd.R_below (by (with_reducible repeat (first | apply Kd.R_alloc | apply Kd.R_drewN | apply Kd.R_drew)); exact HO_24.out) hb); have n3_ := Aside0.mk (blk_below (g := gb198) (o := .cells #[.int .i64 t196, .int .i64 t197] 26 (0, 0)) (by (with_reducible repeat (first | refine blk_drewN ?_ _ | refine blk_drew ?_ | refine blk_alloc ?_ _)); exact BK198.out) hb); have n4_ := Aside0.mk (blk_below (g := gb204) (o := .cells #[.int .i64 t202, .int .i64 t203] 26 (0, 0)) (by (with_reducible repeat (first | refine blk_drewN ?_ _ | refine blk_drew ?_ | refine blk_alloc ?_ _)); exact BK204.out) hb); have n5_ := Aside0.mk (below_step (by repeat (first | (with_reducible first | exact HB.out | apply below_alloc | apply pw_below_drewN | apply below_drew1 | refine below_set ?_ GE198.out | refine below_set ?_ GE204.out) | exact HB.out)) hb); clear HO_5; clear HO_7; clear HO_24; clear BK198; clear BK204; clear HB; have HO_5 := n0_; have HO_7 := n1_; have HO_24 := n2_; have BK198 := n3_; have BK204 := n4_; have HB := n5_; clear n0_ n1_ n2_ n3_ n4_ n5_; (try clear hb); (try clear hb2); (try clear hk); (try clear hi)))
                go_roundg k1
                case measure => have := HK1.out; omega
                case rel => exact ⟨(wrap64 (x26_1 + 1)), (by first | rfl | (simp; done) | (simp [*]; done)), H', ⟨by have := HK1.out; omega⟩, ⟨by (with_reducible repeat (first | apply Kd.R_alloc | apply Kd.R_drewN | apply Kd.R_drew)); exact HO_5.out⟩, ⟨by (with_reducible repeat (first | apply Kd.R_alloc | apply Kd.R_drewN | apply Kd.R_drew)); exact HO_7.out⟩, ⟨by (with_reducible repeat (first | apply Kd.R_alloc | apply Kd.R_drewN | apply Kd.R_drew)); exact HO_24.out⟩, ⟨by (with_reducible repeat (first | refine blk_drewN ?_ _ | refine blk_drew ?_ | refine blk_alloc ?_ _)); exact BK198.out⟩, ⟨by (with_reducible repeat (first | refine blk_drewN ?_ _ | refine blk_drew ?_ | refine blk_alloc ?_ _)); exact BK204.out⟩, ⟨by repeat (first | (with_reducible first | exact HB.out | apply below_alloc | apply pw_below_drewN | apply below_drew1 | refine below_set ?_ GE198.out | refine below_set ?_ GE204.out) | exact HB.out)⟩⟩
              · rw [if_neg c20] at H
                have c20b0 : (t206 == 0) = false := beq_eq_false_iff_ne.mpr c20
                have c20b1 : (t206 != 0) = true := bne_iff_ne.mpr c20
                obtain rfl := Option.some.inj H
                have p205 : 0 ≤ (x26_1 : Int) := of_decide_eq_true (by first | (with_reducible assumption) | assumption)
                have q205 : x26_1 < (t193.length : Int) := of_decide_eq_true (by first | (with_reducible assumption) | assumption)
                obtain ⟨ad205, e205, hx205_0⟩ := Kd.at_string (Kd.R_reads' HO_24.out).2.2 x26_1 p205 q205
                cases e205
                replace p205 := eq_true p205
                replace q205 := eq_true q205
                go_wp2_with (first | ((with_reducible refine gate_callee (f := 16) rfl ?_); refine goesL_ (some 31) rfl rfl Tryd.func16 (by kernel_rfl) rfl #[.string (rdOf ByteArray.empty t193 x26_1)] rfl (by (try simp only [List.map_toArray, List.map_cons, List.map_nil]); first | done | rfl | (simp only [List.length_drop, List.length_take]; rfl)) ?_; (with_reducible refine (name_Check.calls (rdOf ByteArray.empty t193 x26_1) t206 _ A19.out).mono ?_); rintro e w22 ⟨rfl, hb⟩; refine ⟨_, rfl, ?_⟩; have n0_ := Aside0.mk (Kd.R_below (by (with_reducible repeat (first | apply Kd.R_alloc | apply Kd.R_drewN | apply Kd.R_drew)); exact HO_5.out) hb); have n1_ := Aside0.mk (Kd.R_below (by (with_reducible repeat (first | apply Kd.R_alloc | apply Kd.R_drewN | apply Kd.R_drew)); exact HO_7.out) hb); have n2_ := Aside0.mk (Kd.R_below (by (with_reducible repeat (first | apply Kd.R_alloc | apply Kd.R_drewN | apply Kd.R_drew)); exact HO_24.out) hb); have n3_ := Aside0.mk (blk_below (g := gb198) (o := .cells #[.int .i64 t196, .int .i64 t197] 26 (0, 0)) (by (with_reducible repeat (first | refine blk_drewN ?_ _ | refine blk_drew ?_ | refine blk_alloc ?_ _)); exact BK198.out) hb); have n4_ := Aside0.mk (blk_below (g := gb204) (o := .cells #[.int .i64 t202, .int .i64 t203] 26 (0, 0)) (by (with_reducible repeat (first | refine blk_drewN ?_ _ | refine blk_drew ?_ | refine blk_alloc ?_ _)); exact BK204.out) hb); have n5_ := Aside0.mk (below_step (by repeat (first | (with_reducible first | exact HB.out | apply below_alloc | apply pw_below_drewN | apply below_drew1 | refine below_set ?_ GE198.out | refine below_set ?_ GE204.out) | exact HB.out)) hb); clear HO_5; clear HO_7; clear HO_24; clear BK198; clear BK204; clear HB; have HO_5 := n0_; have HO_7 := n1_; have HO_24 := n2_; have BK198 := n3_; have BK204 := n4_; have HB := n5_; clear n0_ n1_ n2_ n3_ n4_ n5_; (try clear hb); (try clear hb2); (try clear hk); (try clear hi)))
                go_ret
                exact ⟨by first | rfl | (simp [errW_none, errW_some] <;> rfl) | (simp [*, errW_none, errW_some] <;> rfl), by repeat (first | (with_reducible first | exact HB.out | apply below_alloc | apply pw_below_drewN | apply below_drew1 | refine below_set ?_ GE198.out | refine below_set ?_ GE204.out) | exact HB.out)⟩
            · rw [if_neg c18] at H
              exact absurd H (by simp)
          · rw [if_neg c17] at H
            exact absurd H (by simp)
        · rw [if_neg c16] at H
          have c16b0 : decide (x26_1 < (t193.length : Int)) = false := decide_eq_false c16
          clear c16
          have HC23 := Aside0.mk H
          clear H
          go_upto_region 11 with (fail)
          go_cut [41] (fun v41 wc => ∃ (kq : Nat) (x41_22 : Bool), v41 = .bool x41_22 ∧ Aside0 (depotlaw05_NameBelow.j1 kq a0 a1 t193 t199 x41_22 = some r) ∧ Aside0 (kq ≤ k1) ∧ Aside0 (Kd.R Kd.string 9 wc w.heap.size (fun k_ => some k_ ≠ (v200 : Value).ownBlock) (.slice Ao15 t193.length co15) t193) ∧ Aside0 (Kd.R Kd.string 9 wc w.heap.size (fun k_ => some k_ ≠ ((.slice Ao15 t193.length co15) : Value).ownBlock) v200 t199) ∧ Aside0 (wc.heap[gb198]? = some (.cells #[.int .i64 t196, .int .i64 t197] 26 (0, 0))) ∧ Aside0 (wc.heap[gb204]? = some (.cells #[.int .i64 t202, .int .i64 t203] 26 (0, 0))) ∧ Aside0 (Below w.heap.size w wc))
          case first =>
            have H := HC23.out
            clear HC23
            by_cases c24 : t196 = 0
            · rw [if_pos c24] at H
              have c24b0 : (t196 == 0) = true := beq_iff_eq.mpr c24
              have c24b1 : (t196 != 0) = false := bne_eq_false_iff_eq.mpr c24
              clear c24
              (first | rw [c24b0] | (simp only [i64_w, i32_w]; rw [c24b0]) | skip)
              have H' := Aside0.mk H
              clear H
              have hnb25 := NB198_204.out
              have hnc25 := NB204_198.out
              have hcz26_0 : wr.cell? ⟨gb198, 0, none⟩ = some (.int .i64 t196) := (blk_cell BK198.out 0).trans rfl
              have hcz26_1 : wr.cell? ⟨gb198, 1, none⟩ = some (.int .i64 t197) := (blk_cell BK198.out 1).trans rfl
              have hfz26_0 := blk_frozen BK198.out 0
              have hfz26_1 := blk_frozen BK198.out 1
              have hcz27_0 : wr.cell? ⟨gb204, 0, none⟩ = some (.int .i64 t202) := (blk_cell BK204.out 0).trans rfl
              have hcz27_1 : wr.cell? ⟨gb204, 1, none⟩ = some (.int .i64 t203) := (blk_cell BK204.out 1).trans rfl
              have hfz27_0 := blk_frozen BK204.out 0
              have hfz27_1 := blk_frozen BK204.out 1
              go_wp2
              go_meet
              case rel => exact ⟨_, ((t202 != 0)), (by first | rfl | (simp; done) | (simp [*]; done)), H', ⟨by have := HK1.out; first | omega | exact Nat.le_refl _⟩, ⟨by (with_reducible repeat (first | apply Kd.R_alloc | apply Kd.R_drewN | apply Kd.R_drew)); exact HO_5.out⟩, ⟨by (with_reducible repeat (first | apply Kd.R_alloc | apply Kd.R_drewN | apply Kd.R_drew)); exact Kd.R_mono HO_7.out (fun _ hk => hk.1)⟩, ⟨by (with_reducible repeat (first | refine blk_drewN ?_ _ | refine blk_drew ?_ | refine blk_alloc ?_ _)); exact BK198.out⟩, ⟨by (with_reducible repeat (first | refine blk_drewN ?_ _ | refine blk_drew ?_ | refine blk_alloc ?_ _)); exact BK204.out⟩, ⟨by repeat (first | (with_reducible first | exact HB.out | apply below_alloc | apply pw_below_drewN | apply below_drew1 | refine below_set ?_ GE198.out | refine below_set ?_ GE204.out) | exact HB.out)⟩⟩
            · rw [if_neg c24] at H
              have c24b0 : (t196 == 0) = false := beq_eq_false_iff_ne.mpr c24
              have c24b1 : (t196 != 0) = true := bne_iff_ne.mpr c24
              (first | rw [c24b0] | (simp only [i64_w, i32_w]; rw [c24b0]) | skip)
              have H' := Aside0.mk H
              clear H
              have hnb28 := NB198_204.out
              have hnc28 := NB204_198.out
              have hcz29_0 : wr.cell? ⟨gb198, 0, none⟩ = some (.int .i64 t196) := (blk_cell BK198.out 0).trans rfl
              have hcz29_1 : wr.cell? ⟨gb198, 1, none⟩ = some (.int .i64 t197) := (blk_cell BK198.out 1).trans rfl
              have hfz29_0 := blk_frozen BK198.out 0
              have hfz29_1 := blk_frozen BK198.out 1
              go_wp2
              go_meet
              case rel => exact ⟨_, (true), (by first | rfl | (simp; done) | (simp [*]; done)), H', ⟨by have := HK1.out; first | omega | exact Nat.le_refl _⟩, ⟨by (with_reducible repeat (first | apply Kd.R_alloc | apply Kd.R_drewN | apply Kd.R_drew)); exact HO_5.out⟩, ⟨by (with_reducible repeat (first | apply Kd.R_alloc | apply Kd.R_drewN | apply Kd.R_drew)); exact Kd.R_mono HO_7.out (fun _ hk => hk.1)⟩, ⟨by (with_reducible repeat (first | refine blk_drewN ?_ _ | refine blk_drew ?_ | refine blk_alloc ?_ _)); exact BK198.out⟩, ⟨by (with_reducible repeat (first | refine blk_drewN ?_ _ | refine blk_drew ?_ | refine blk_alloc ?_ _)); exact BK204.out⟩, ⟨by repeat (first | (with_reducible first | exact HB.out | apply below_alloc | apply pw_below_drewN | apply below_drew1 | refine below_set ?_ GE198.out | refine below_set ?_ GE204.out) | exact HB.out)⟩⟩
          case rest =>
            clear HC23
            try clear c1
            try clear c2
            try clear p2
            try clear q2
            try clear hx2
            try clear c4
            try clear p6
            try clear c7
            try clear c8
            try clear c9
            try clear c13
            try clear c16
            try clear c16b0
            try clear c17
            try clear c17b0
            try clear c18
            try clear c18b0
            try clear c20
            try clear c20b0
            try clear c20b1
            try clear p20
            try clear q20
            try clear hx20
            try clear c24
            try clear c24b0
            try clear c24b1
            try clear c25
            try clear c28
            try clear hcz10_0
            try clear hcz10_1
            try clear hcz14_0
            try clear hcz14_1
            try clear hcz26_0
            try clear hcz26_1
            try clear hcz27_0
            try clear hcz27_1
            try clear hcz29_0
            try clear hcz29_1
            try clear hfz10_0
            try clear hfz10_1
            try clear hfz14_0
            try clear hfz14_1
            try clear hfz26_0
            try clear hfz26_1
            try clear hfz27_0
            try clear hfz27_1
            try clear hfz29_0
            try clear hfz29_1
            try clear hx205_0
            try clear p2
            try clear p205
            try clear q205
            obtain ⟨kq, x41_22, rfl, HA, HJ22, HO_5, HO_7, BK198, BK204, HB⟩ := hcut
            cases kq with
            | zero => exact absurd HA.out (by simp [depotlaw05_NameBelow.j1])
            | succ kj22 =>
              have H := HA.out
              clear HA
              simp only [depotlaw05_NameBelow.j1] at H
              by_cases c30 : x41_22 = true
              · subst c30
                have H1 : (some true) = some r := by rw [if_pos rfl] at H; exact H
                clear H
                have H := H1
                clear H1
                obtain rfl := Option.some.inj H
                go_wp2
                go_ret
                exact ⟨by first | rfl | (simp [errW_none, errW_some] <;> rfl) | (simp [*, errW_none, errW_some] <;> rfl), by repeat (first | (with_reducible first | exact HB.out | apply below_alloc | apply pw_below_drewN | apply below_drew1 | refine below_set ?_ GE198.out | refine below_set ?_ GE204.out) | exact HB.out)⟩
              · replace c30 := Bool.eq_false_iff.mpr c30
                subst c30
                have H1 : (if (t193.length : Int) ≥ (t199.length : Int) then (if 0 ≤ (mn (t193.length : Int) (t199.length : Int)) then (if (mn (t193.length : Int) (t199.length : Int)) ≤ (t193.length : Int) then ((depotlaw05_alike.f kj22 (t193.take ((mn (t193.length : Int) (t199.length : Int)) : Int).toNat) t199).bind fun t211 => ((name_Under.f a0 a1).bind fun t212 => (some (t212 == t211)))) else (none)) else (none)) else ((name_Under.f a0 a1).bind fun t213 => (some (t213 == false)))) = some r := by rw [if_neg (show ¬ (false = true) by decide)] at H; exact H
                clear H
                have H := H1
                clear H1
                by_cases c31 : (t193.length : Int) ≥ (t199.length : Int)
                · rw [if_pos c31] at H
                  have c31b0 : decide ((t199.length : Int) ≤ (t193.length : Int)) = true := decide_eq_true c31
                  have c31b1 : decide (t199.length ≤ t193.length) = true := decide_eq_true (Int.ofNat_le.mp c31)
                  clear c31
                  obtain ⟨ji32, hji32⟩ : ∃ j_ : Int, (mn (t193.length : Int) (t199.length : Int)) = j_ := ⟨_, rfl⟩
                  replace H : (if 0 ≤ (ji32) then (if (ji32) ≤ (t193.length : Int) then ((depotlaw05_alike.f kj22 (t193.take ((ji32) : Int).toNat) t199).bind fun t211 => ((name_Under.f a0 a1).bind fun t212 => (some (t212 == t211)))) else (none)) else (none)) = some r := by first | (rw [hji32] at H; exact H) | (simp only [hji32] at H ⊢; exact H)
                  have hji32_ : (if (t199.length : Int) < (t193.length : Int) then (t199.length : Int) else (t193.length : Int)) = ji32 := hji32
                  by_cases c33 : 0 ≤ (ji32)
                  · rw [if_pos c33] at H
                    have c33b0 := eq_true c33
                    have c33b1 : decide (0 ≤ (ji32)) = true := decide_eq_true c33
                    clear c33
                    by_cases c34 : (ji32) ≤ (t193.length : Int)
                    · rw [if_pos c34] at H
                      have c34b0 := eq_true c34
                      have c34b1 : decide ((ji32) ≤ (t193.length : Int)) = true := decide_eq_true c34
                      clear c34
                      obtain ⟨y207, hy207⟩ : ∃ y_ : List ByteArray, y_ = (t193.take ((ji32) : Int).toNat) := ⟨_, rfl⟩
                      replace H : ((depotlaw05_alike.f kj22 y207 t199).bind fun t211 => ((name_Under.f a0 a1).bind fun t212 => (some (t212 == t211)))) = some r := by first | (rw [hy207]; with_reducible exact H) | (have H2_ := (Option.bind_some _ _).symm.trans H; rw [hy207]; with_reducible exact H2_) | (have H2_ := (Option.bind_some _ _).symm.trans H; with_reducible exact H2_) | with_reducible exact H | (rw [hy207]; exact H) | exact H
                      have Ny207 := Aside0.mk hy207
                      clear hy207
                      replace H := Option.bind_eq_some_iff.mp H
                      obtain ⟨t211, A350, H⟩ := H
                      replace H : ((name_Under.f a0 a1).bind fun t212 => (some (t212 == t211))) = some r := H
                      have A35 := Aside0.mk A350
                      clear A350
                      replace H := Option.bind_eq_some_iff.mp H
                      obtain ⟨t212, A360, H⟩ := H
                      replace H : (some (t212 == t211)) = some r := H
                      have A36 := Aside0.mk A360
                      clear A360
                      obtain rfl := Option.some.inj H
                      obtain ⟨Ao37, co37, eo37⟩ := Kd.R_slice HO_7.out
                      subst eo37
                      have q38 : ((ji32) : Int) ≤ ((t193.length : Int) : Int) := of_decide_eq_true (by first | (with_reducible assumption) | assumption)
                      obtain ⟨i038, hi038, _, hsz38, _⟩ := info_parts info9
                      have hroom38 : t193.length ≤ co15 := (Kd.R_reads' HO_5.out).2.1
                      have hC38 : Kd.C Kd.string _ Ao15 t193.length t193 := (Kd.R_reads' HO_5.out).2.2
                      have hcut38 := cut_to (P := Tryd.prog) 23 9 .i64 Tryd.underlying23 hi038 Ao15 t193.length co15 (ji32) (of_decide_eq_true (by first | (with_reducible assumption) | assumption)) q38 hroom38
                      have hr38 := Kd.C_take (m := ((ji32) : Int).toNat) hC38 (by omega)
                      have hy38 : y207.length = ((ji32) : Int).toNat := (by rw [Ny207.out, List.length_take]; omega)
                      rw [← Ny207.out] at hr38
                      rw [← hy38] at hcut38
                      have HR210 := Aside0.mk hr38
                      have HC210 := Aside0.mk (show y207.length ≤ co15 from by omega)
                      clear hr38 hC38 hroom38 hi038 hsz38
                      have KY38 := Aside0.mk hy38
                      clear hy38
                      have KL38 := Aside0.mk (show ((ji32) : Int).toNat ≤ t193.length from by omega)
                      replace q38 := eq_true q38
                      have hge99 := of_decide_eq_true c31b0
                      by_cases c99 : (t199.length : Int) < (t193.length : Int)
                      · have e99 : ji32 = (t199.length : Int) := by rw [← hji32_, if_pos c99]
                        clear hji32 hji32_
                        subst e99
                        have hlen99 : y207.length = t199.length := by have hq99 := KY38.out; omega
                        have hal99 : ∀ (A1 A2 : Option Addr) (c1 c2 : Nat) (W : World), Kd.C Kd.string W A1 y207.length y207 → y207.length ≤ c1 → Kd.C Kd.string W A2 t199.length t199 → t199.length ≤ c2 → Calls Tryd.prog 11 #[.slice A1 t199.length c1, .slice A2 t199.length c2] W fun e w' => e = .returned (.bool t211) ∧ Drawn0 W w' := fun A1 A2 c1 c2 W h1 h2 h3 h4 => by
                          have h := depotlaw05_alike.calls kj22 A1 c1 y207 A2 c2 t199 t211 W h1 h2 h3 h4 A35.out
                          rwa [hlen99] at h
                        rw [hlen99] at hcut38
                        go_wp2_with (first | (go_at_call 11; (with_reducible refine (hal99 _ _ _ _ _ ?side1 ?side2 ?side3 ?side4).mono ?_); (case side1 => repeat (first | exact (by repeat (first | (with_reducible exact HR210.out) | (with_reducible refine Kd.C_alloc ?_ _) | (with_reducible refine Kd.C_drewN ?_ _) | (with_reducible refine Kd.C_drew ?_) | exact HR210.out)) | (with_reducible refine Kd.C_alloc ?_ _) | (with_reducible refine Kd.C_drewN ?_ _) | (with_reducible refine Kd.C_drew ?_))); (case side2 => exact HC210.out); (case side3 => repeat (first | exact (Kd.R_reads' HO_7.out).2.2 | (with_reducible refine Kd.C_alloc ?_ _) | (with_reducible refine Kd.C_drewN ?_ _) | (with_reducible refine Kd.C_drew ?_))); (case side4 => exact (Kd.R_reads' HO_7.out).2.1); rintro e w' ⟨rfl, ⟨nd, rfl⟩⟩) | ((with_reducible refine gate_callee (f := 17) rfl ?_); refine goesL_ (some 60) rfl rfl Tryd.func17 (by kernel_rfl) rfl #[.string a0, .string a1] rfl (by (try simp only [List.map_toArray, List.map_cons, List.map_nil]); first | done | rfl | (simp only [List.length_drop, List.length_take]; rfl)) ?_; (with_reducible refine (name_Under.calls a0 a1 t212 _ A36.out).mono ?_); rintro e w' ⟨rfl, ⟨nd, rfl⟩⟩; refine ⟨_, rfl, ?_⟩))
                        go_ret
                        exact ⟨by first | rfl | (simp [errW_none, errW_some] <;> rfl) | (simp only [← hji32]; first | rfl | (simp [errW_none, errW_some] <;> rfl)) | (simp [*, errW_none, errW_some] <;> rfl), by repeat (first | (with_reducible first | exact HB.out | apply below_alloc | apply pw_below_drewN | apply below_drew1 | refine below_set ?_ GE198.out | refine below_set ?_ GE204.out) | exact HB.out)⟩
                      · have e99 : ji32 = (t193.length : Int) := by rw [← hji32_, if_neg c99]
                        clear hji32 hji32_
                        subst e99
                        have hlen99 : y207.length = t193.length := by have hq99 := KY38.out; omega
                        have hal99 : ∀ (A1 A2 : Option Addr) (c1 c2 : Nat) (W : World), Kd.C Kd.string W A1 y207.length y207 → y207.length ≤ c1 → Kd.C Kd.string W A2 t199.length t199 → t199.length ≤ c2 → Calls Tryd.prog 11 #[.slice A1 t193.length c1, .slice A2 t199.length c2] W fun e w' => e = .returned (.bool t211) ∧ Drawn0 W w' := fun A1 A2 c1 c2 W h1 h2 h3 h4 => by
                          have h := depotlaw05_alike.calls kj22 A1 c1 y207 A2 c2 t199 t211 W h1 h2 h3 h4 A35.out
                          rwa [hlen99] at h
                        rw [hlen99] at hcut38
                        go_wp2_with (first | (go_at_call 11; (with_reducible refine (hal99 _ _ _ _ _ ?side1 ?side2 ?side3 ?side4).mono ?_); (case side1 => repeat (first | exact (by repeat (first | (with_reducible exact HR210.out) | (with_reducible refine Kd.C_alloc ?_ _) | (with_reducible refine Kd.C_drewN ?_ _) | (with_reducible refine Kd.C_drew ?_) | exact HR210.out)) | (with_reducible refine Kd.C_alloc ?_ _) | (with_reducible refine Kd.C_drewN ?_ _) | (with_reducible refine Kd.C_drew ?_))); (case side2 => exact HC210.out); (case side3 => repeat (first | exact (Kd.R_reads' HO_7.out).2.2 | (with_reducible refine Kd.C_alloc ?_ _) | (with_reducible refine Kd.C_drewN ?_ _) | (with_reducible refine Kd.C_drew ?_))); (case side4 => exact (Kd.R_reads' HO_7.out).2.1); rintro e w' ⟨rfl, ⟨nd, rfl⟩⟩) | ((with_reducible refine gate_callee (f := 17) rfl ?_); refine goesL_ (some 60) rfl rfl Tryd.func17 (by kernel_rfl) rfl #[.string a0, .string a1] rfl (by (try simp only [List.map_toArray, List.map_cons, List.map_nil]); first | done | rfl | (simp only [List.length_drop, List.length_take]; rfl)) ?_; (with_reducible refine (name_Under.calls a0 a1 t212 _ A36.out).mono ?_); rintro e w' ⟨rfl, ⟨nd, rfl⟩⟩; refine ⟨_, rfl, ?_⟩))
                        go_ret
                        exact ⟨by first | rfl | (simp [errW_none, errW_some] <;> rfl) | (simp only [← hji32]; first | rfl | (simp [errW_none, errW_some] <;> rfl)) | (simp [*, errW_none, errW_some] <;> rfl), by repeat (first | (with_reducible first | exact HB.out | apply below_alloc | apply pw_below_drewN | apply below_drew1 | refine below_set ?_ GE198.out | refine below_set ?_ GE204.out) | exact HB.out)⟩
                    · rw [if_neg c34] at H
                      exact absurd H (by simp)
                  · rw [if_neg c33] at H
                    exact absurd H (by simp)
                · rw [if_neg c31] at H
                  have c31b0 : decide ((t199.length : Int) ≤ (t193.length : Int)) = false := decide_eq_false c31
                  have c31b1 : decide (t199.length ≤ t193.length) = false := decide_eq_false (fun h => c31 (Int.ofNat_le.mpr h))
                  clear c31
                  replace H := Option.bind_eq_some_iff.mp H
                  obtain ⟨t213, A390, H⟩ := H
                  replace H : (some (t213 == false)) = some r := H
                  have A39 := Aside0.mk A390
                  clear A390
                  obtain rfl := Option.some.inj H
                  obtain ⟨Ao40, co40, eo40⟩ := Kd.R_slice HO_7.out
                  subst eo40
                  go_wp2_with (first | ((with_reducible refine gate_callee (f := 17) rfl ?_); refine goesL_ (some 60) rfl rfl Tryd.func17 (by kernel_rfl) rfl #[.string a0, .string a1] rfl (by (try simp only [List.map_toArray, List.map_cons, List.map_nil]); first | done | rfl | (simp only [List.length_drop, List.length_take]; rfl)) ?_; (with_reducible refine (name_Under.calls a0 a1 t213 _ A39.out).mono ?_); rintro e w' ⟨rfl, ⟨nd, rfl⟩⟩; refine ⟨_, rfl, ?_⟩))
                  go_ret
                  exact ⟨by first | rfl | (simp [errW_none, errW_some] <;> rfl) | (simp [*, errW_none, errW_some] <;> rfl), by repeat (first | (with_reducible first | exact HB.out | apply below_alloc | apply pw_below_drewN | apply below_drew1 | refine below_set ?_ GE198.out | refine below_set ?_ GE204.out) | exact HB.out)⟩
  · replace c4 := Bool.eq_false_iff.mpr c4
    subst c4
    have H1 : (some false) = some r := by rw [if_neg (show ¬ (false = true) by decide)] at H; exact H
    clear H
    have H := H1
    clear H1
    obtain rfl := Option.some.inj H
    go_enter Tryd.func7, Tryd.ntmps7
    go_wp2_with (first | ((with_reducible refine gate_callee (f := 8) rfl ?_); refine goesL_ (some 12) rfl rfl Tryd.func8 (by kernel_rfl) rfl #[] rfl (by (try simp only [List.map_toArray, List.map_cons, List.map_nil]); first | done | rfl | (simp only [List.length_drop, List.length_take]; rfl)) ?_; (with_reducible refine (depotlaw05_awake.calls k  false _ A3.out).mono ?_); rintro e w41 ⟨rfl, hb⟩; refine ⟨_, rfl, ?_⟩; have n0_ := Aside0.mk (below_step (by repeat (first | (with_reducible first | exact HB.out | apply below_alloc | apply pw_below_drewN | apply below_drew1) | exact HB.out)) hb); clear HB; have HB := n0_; clear n0_; (try clear hb); (try clear hb2); (try clear hk); (try clear hi)))
    go_ret
    exact ⟨by first | rfl | (simp [errW_none, errW_some] <;> rfl) | (simp [*, errW_none, errW_some] <;> rfl), by repeat (first | (with_reducible first | exact HB.out | apply below_alloc | apply pw_below_drewN | apply below_drew1) | exact HB.out)⟩

/-- THE ONE PURE STATEMENT of depotlaw05_NameBelow: yours. -/
def depotlaw05_NameBelow.Pure : Prop := ∀ (a0 : ByteArray) (a1 : ByteArray), a0.size ≤ 140737488351232 → a1.size ≤ 140737488351232 → ∃ k, depotlaw05_NameBelow.f k a0 a1 = some true
theorem depotlaw05_NameBelow.walk (P : depotlaw05_NameBelow.Pure) (a0 : ByteArray) (a1 : ByteArray) (w : World) (w0 : a0.size ≤ 140737488351232) (w1 : a1.size ≤ 140737488351232) :
    Calls Tryd.prog 7 #[.string a0, .string a1] w fun e w' => e = .returned (.bool true) ∧ Below w.heap.size w w' := by
  obtain ⟨k, h⟩ := P a0 a1 w0 w1
  refine (depotlaw05_NameBelow.calls k a0 a1 true w h).mono ?_
  rintro e w' ⟨rfl, hd⟩
  exact ⟨rfl, hd⟩

end Go.Proofs.YtabgpdpdgkgmbaaDoor.Q
