/- Texts of this claim, put together: Q32, SplitPure, SplitParse, SplitText, SplitMain, RefNum, RefOne, RefRead, Whole, PureWireSplits, Opens. -/
import Derived.Test.YtnilogameaaooaaCWireSplits1
import Derived.Test.YtnilogameaaooaaCWireSplits2
import Derived.Test.YtnilogameaaooaaCWireSplits3
import Derived.Test.YtnilogameaaooaaRows
import Derived.Test.YtnilogameaaooaaWWords
import Derived.Test.YtnilogameaaooaaWLast
import Derived.Deep.Slices
import Derived.ProofKit
import Derived.SizedLaws
/- By a program of this session's: a plain Lean function for a Go function, and its contract. -/
namespace Go.Proofs.Ytnilogameaaooaa.Q
open Go.RowKit Go.Proofs.YtnilogameaaooaaW.PrintWords Go.Proofs.YtnilogameaaooaaW.PrintLast Go.Proofs.YtnilogameaaooaaW.PrintMore
attribute [local go_sem] max2_int min2_int max_two min_two max_three min_three max_four min_four Go.Proofs.Ytnilogameaaooaa.Ord.str_leq Go.Proofs.Ytnilogameaaooaa.Ord.str_gtr Go.Proofs.Ytnilogameaaooaa.Ord.str_geq   -- for this text's walks alone
set_option linter.unusedVariables false
set_option linter.unusedSimpArgs false

/-! ### depotlaw03_WireSplits: function 4 -/
def depotlaw03_WireSplits.j0 : Nat → List (S55) → Int → Bool → List (S78) → Int → Int → Int → Option (Bool)
  | 0, _, _, _, _, _, _, _ => none
  | k + 1, x7, x10, x41, x176000, x176001, x176002, x176003 => if x41 = true then (some false) else (if x10 = 0 then ((depotlaw03_same.f k x7 x176000 0).bind fun t178 => (some t178)) else (some ((x7.length : Int) == 0)))
def depotlaw03_WireSplits.f (k : Nat) (a0 : ByteArray) (a1 : ByteArray) (a2 : Int) : Option (Bool) := (depotlaw03_awake.f k).bind fun t162 => (if t162 = true then ((wire_Split.f a0 a1 a2).bind fun bt163 => ((depotref03_Read.f k a0 a1 a2).bind fun bt169 => ((depotref03_Closed.f k a0 a1 a2).bind fun bt176 => (if bt163.2.1 = bt176.1 then (depotlaw03_WireSplits.j0 k bt163.1 bt176.1 (bt163.2.2 != bt176.2) bt169.1 bt169.2.1 bt169.2.2.1 bt169.2.2.2) else (depotlaw03_WireSplits.j0 k bt163.1 bt176.1 true bt169.1 bt169.2.1 bt169.2.2.1 bt169.2.2.2))))) else (some false))
theorem depotlaw03_WireSplits.mono_l : ∀ k, (∀ y0 y1 y2 y3 y4 y5 y6, LeO (depotlaw03_WireSplits.j0 k y0 y1 y2 y3 y4 y5 y6) (depotlaw03_WireSplits.j0 (k + 1) y0 y1 y2 y3 y4 y5 y6))
  | 0 => fun _ _ _ _ _ _ _ r h => by simp [depotlaw03_WireSplits.j0] at h
  | k + 1 => by
    have ih0 := depotlaw03_WireSplits.mono_l k
    · intro y0 y1 y2 y3 y4 y5 y6
      unfold depotlaw03_WireSplits.j0
      repeat' first
      | (with_reducible exact ih0 _ _ _ _ _ _ _)
      | (with_reducible exact depotlaw03_awake.mono _)
      | (with_reducible exact depotlaw03_same.mono _ _ _ _)
      | (with_reducible exact depotref03_Closed.mono _ _ _ _)
      | (with_reducible exact depotref03_Read.mono _ _ _ _)
      | (with_reducible exact LeO.refl _)
      | (with_reducible exact LeO.none _)
      | (with_reducible refine LeO.ite ?_ ?_)
      | (with_reducible refine LeO.bind ?_ (fun _ => ?_))
      | exact ih0 _ _ _ _ _ _ _
      | exact depotlaw03_awake.mono _
      | exact depotlaw03_same.mono _ _ _ _
      | exact depotref03_Closed.mono _ _ _ _
      | exact depotref03_Read.mono _ _ _ _
      | exact LeO.none _
      | refine LeO.ite ?_ ?_
      | refine LeO.bind ?_ (fun _ => ?_)
theorem depotlaw03_WireSplits.mono : ∀ a0 a1 a2 k, LeO (depotlaw03_WireSplits.f k a0 a1 a2) (depotlaw03_WireSplits.f (k + 1) a0 a1 a2) := by
  intro a0 a1 a2 k
  have ih0 := depotlaw03_WireSplits.mono_l k
  unfold depotlaw03_WireSplits.f
  repeat' first
      | (with_reducible exact ih0 _ _ _ _ _ _ _)
      | (with_reducible exact depotlaw03_awake.mono _)
      | (with_reducible exact depotlaw03_same.mono _ _ _ _)
      | (with_reducible exact depotref03_Closed.mono _ _ _ _)
      | (with_reducible exact depotref03_Read.mono _ _ _ _)
      | (with_reducible exact LeO.refl _)
      | (with_reducible exact LeO.none _)
      | (with_reducible refine LeO.ite ?_ ?_)
      | (with_reducible refine LeO.bind ?_ (fun _ => ?_))
      | exact ih0 _ _ _ _ _ _ _
      | exact depotlaw03_awake.mono _
      | exact depotlaw03_same.mono _ _ _ _
      | exact depotref03_Closed.mono _ _ _ _
      | exact depotref03_Read.mono _ _ _ _
      | exact LeO.none _
      | refine LeO.ite ?_ ?_
      | refine LeO.bind ?_ (fun _ => ?_)
set_option maxHeartbeats 8000000 in
set_option maxRecDepth 100000 in
theorem depotlaw03_WireSplits.calls (k : Nat) (a0 : ByteArray) (a1 : ByteArray) (a2 : Int) (r : Bool) (w : World) (h : depotlaw03_WireSplits.f k a0 a1 a2 = some r) :
    Calls Try.prog 4 #[.string a0, .string a1, .int .i64 a2] w fun e w' => e = .returned (.bool r) ∧ Below w.heap.size w w' := by
  have hu31 := Try.underlying31
  have hu36 := Try.underlying36
  have HB := Aside0.mk (Below.refl w.heap.size w)
  have H : ((depotlaw03_awake.f k).bind fun t162 => (if t162 = true then ((wire_Split.f a0 a1 a2).bind fun bt163 => ((depotref03_Read.f k a0 a1 a2).bind fun bt169 => ((depotref03_Closed.f k a0 a1 a2).bind fun bt176 => (if bt163.2.1 = bt176.1 then (depotlaw03_WireSplits.j0 k bt163.1 bt176.1 (bt163.2.2 != bt176.2) bt169.1 bt169.2.1 bt169.2.2.1 bt169.2.2.2) else (depotlaw03_WireSplits.j0 k bt163.1 bt176.1 true bt169.1 bt169.2.1 bt169.2.2.1 bt169.2.2.2))))) else (some false))) = some r := h
  clear h
  replace H := Option.bind_eq_some_iff.mp H
  obtain ⟨t162, A40, H⟩ := H
  replace H : (if t162 = true then ((wire_Split.f a0 a1 a2).bind fun bt163 => ((depotref03_Read.f k a0 a1 a2).bind fun bt169 => ((depotref03_Closed.f k a0 a1 a2).bind fun bt176 => (if bt163.2.1 = bt176.1 then (depotlaw03_WireSplits.j0 k bt163.1 bt176.1 (bt163.2.2 != bt176.2) bt169.1 bt169.2.1 bt169.2.2.1 bt169.2.2.2) else (depotlaw03_WireSplits.j0 k bt163.1 bt176.1 true bt169.1 bt169.2.1 bt169.2.2.1 bt169.2.2.2))))) else (some false)) = some r := H
  have A4 := Aside0.mk A40
  clear A40
  by_cases c5 : t162 = true
  · subst c5
    have H1 : ((wire_Split.f a0 a1 a2).bind fun bt163 => ((depotref03_Read.f k a0 a1 a2).bind fun bt169 => ((depotref03_Closed.f k a0 a1 a2).bind fun bt176 => (if bt163.2.1 = bt176.1 then (depotlaw03_WireSplits.j0 k bt163.1 bt176.1 (bt163.2.2 != bt176.2) bt169.1 bt169.2.1 bt169.2.2.1 bt169.2.2.2) else (depotlaw03_WireSplits.j0 k bt163.1 bt176.1 true bt169.1 bt169.2.1 bt169.2.2.1 bt169.2.2.2))))) = some r := by rw [if_pos rfl] at H; exact H
    clear H
    have H := H1
    clear H1
    replace H := Option.bind_eq_some_iff.mp H
    obtain ⟨⟨t163, t166, t167⟩, A60, H⟩ := H
    replace H : ((depotref03_Read.f k a0 a1 a2).bind fun bt169 => ((depotref03_Closed.f k a0 a1 a2).bind fun bt176 => (if t166 = bt176.1 then (depotlaw03_WireSplits.j0 k t163 bt176.1 (t167 != bt176.2) bt169.1 bt169.2.1 bt169.2.2.1 bt169.2.2.2) else (depotlaw03_WireSplits.j0 k t163 bt176.1 true bt169.1 bt169.2.1 bt169.2.2.1 bt169.2.2.2)))) = some r := H
    have A6 := Aside0.mk A60
    clear A60
    replace H := Option.bind_eq_some_iff.mp H
    obtain ⟨⟨t169, t172, t173, t174⟩, A70, H⟩ := H
    replace H : ((depotref03_Closed.f k a0 a1 a2).bind fun bt176 => (if t166 = bt176.1 then (depotlaw03_WireSplits.j0 k t163 bt176.1 (t167 != bt176.2) t169 t172 t173 t174) else (depotlaw03_WireSplits.j0 k t163 bt176.1 true t169 t172 t173 t174))) = some r := H
    have A7 := Aside0.mk A70
    clear A70
    replace H := Option.bind_eq_some_iff.mp H
    obtain ⟨⟨t176, t177⟩, A80, H⟩ := H
    replace H : (if t166 = t176 then (depotlaw03_WireSplits.j0 k t163 t176 (t167 != t177) t169 t172 t173 t174) else (depotlaw03_WireSplits.j0 k t163 t176 true t169 t172 t173 t174)) = some r := H
    have A8 := Aside0.mk A80
    clear A80
    have HC9 := Aside0.mk H
    clear H
    go_enter Try.func4, Try.ntmps4
    go_upto_region 6 with (first | ((with_reducible refine gate_callee (f := 18) rfl ?_); refine goesL_ (some 12) rfl rfl Try.func18 (by kernel_rfl) rfl #[] rfl (by (try simp only [List.map_toArray, List.map_cons, List.map_nil]); first | done | rfl | (simp only [List.length_drop, List.length_take]; rfl)) ?_; (with_reducible refine (depotlaw03_awake.calls k  true _ A4.out).mono ?_); rintro e w10 ⟨rfl, hb⟩; refine ⟨_, rfl, ?_⟩; have n0_ := Aside0.mk (below_step (by repeat (first | (with_reducible first | exact HB.out | apply below_alloc | apply pw_below_drewN | apply below_drew1) | exact HB.out)) hb); clear HB; have HB := n0_; clear n0_; (try clear hb); (try clear hb2); (try clear hk); (try clear hi)) | ((with_reducible refine gate_callee (f := 19) rfl ?_); refine goesL_ (some 18) rfl rfl Try.func19 (by kernel_rfl) rfl #[.string a0, .string a1, .int .i64 a2] rfl (by (try simp only [List.map_toArray, List.map_cons, List.map_nil]); first | done | rfl | (simp only [List.length_drop, List.length_take]; rfl)) ?_; (with_reducible refine (wire_Split.calls a0 a1 a2 t163 t166 t167 _ A6.out).mono ?_); rintro e w11 ⟨v164, rfl, ho0, hb⟩; refine ⟨_, rfl, ?_⟩; have n0_ := Aside0.mk (Kd.R_lower ho0 (below_size (by repeat (first | (with_reducible first | exact HB.out | apply below_alloc | apply pw_below_drewN | apply below_drew1) | exact HB.out)))); have n1_ := Aside0.mk (below_step (by repeat (first | (with_reducible first | exact HB.out | apply below_alloc | apply pw_below_drewN | apply below_drew1) | exact HB.out)) hb); clear HB; have HO165 := n0_; have HB := n1_; clear n0_ n1_; (try clear hb); (try clear hb2); (try clear hk); (try clear hi); (try clear ho0)) | ((with_reducible refine gate_dst (N := 8) rfl ?_); refine box_event ?hg (N := 8) ?hd (cs := #[.int .i64 0, .int .i64 0]) (t := 31) ?hr ?_; (case hd => rfl); (case hg => rfl); (case hr => first | (go_simp; done) | (go_simp; rfl)); intro gb168 hg w12 hbox hb; have n0_ := Aside0.mk (Kd.R_below (by (with_reducible repeat (first | apply Kd.R_alloc | apply Kd.R_drewN | apply Kd.R_drew)); exact HO165.out) hb); have n1_ := Aside0.mk (below_step (by repeat (first | (with_reducible first | exact HB.out | apply below_alloc | apply pw_below_drewN | apply below_drew1) | exact HB.out)) hb); have n2_ := Aside0.mk (hbox); have n3_ := Aside0.mk ((by rw [hg]; exact (below_size (by repeat (first | (with_reducible first | exact HB.out | apply below_alloc | apply pw_below_drewN | apply below_drew1) | exact HB.out))) : w.heap.size ≤ gb168)); have n4_ := Aside0.mk ((by rw [hg]; exact (below_size (by repeat (first | (with_reducible first | exact HB.out | apply below_alloc | apply pw_below_drewN | apply below_drew1) | exact HB.out))) : w.heap.size ≤ gb168)); clear HO165; clear HB; have HO165 := n0_; have HB := n1_; have BK168 := n2_; have GW168 := n3_; have GE168 := n4_; clear n0_ n1_ n2_ n3_ n4_; clear hb hbox hg; have hcz13_0 : w12.cell? ⟨gb168, 0, none⟩ = some (.int .i64 0) := (blk_cell BK168.out 0).trans rfl; have hcz13_1 : w12.cell? ⟨gb168, 1, none⟩ = some (.int .i64 0) := (blk_cell BK168.out 1).trans rfl; have hfz13_0 := blk_frozen BK168.out 0; have hfz13_1 := blk_frozen BK168.out 1) | ((with_reducible refine gate_callee (f := 20) rfl ?_); refine goesL_ (some 24) rfl rfl Try.func20 (by kernel_rfl) rfl #[.string a0, .string a1, .int .i64 a2] rfl (by (try simp only [List.map_toArray, List.map_cons, List.map_nil]); first | done | rfl | (simp only [List.length_drop, List.length_take]; rfl)) ?_; (with_reducible refine (depotref03_Read.calls k a0 a1 a2 t169 t172 t173 t174 _ A7.out).mono ?_); rintro e w14 ⟨v170, rfl, ho0, hb⟩; refine ⟨_, rfl, ?_⟩; have n0_ := Aside0.mk (Kd.R_below (by (with_reducible repeat (first | apply Kd.R_alloc | apply Kd.R_drewN | apply Kd.R_drew)); exact (Kd.R_mono (Kd.R_far (p := ⟨gb168, 1, none⟩) (Kd.R_far (p := ⟨gb168, 0, none⟩) (Kd.R_types HO165.out BK168.out (by decide)) (fun _ hk => hk.2) (.int .i64 t166)) (fun _ hk => hk.2) (.int .i64 t167)) (fun _ h_ => h_.1))) hb); have n1_ := Aside0.mk (Kd.R_lower ho0 (below_size (by repeat (first | (with_reducible first | exact HB.out | apply below_alloc | apply pw_below_drewN | apply below_drew1 | refine below_set ?_ GE168.out) | exact HB.out)))); have n2_ := Aside0.mk (blk_below (g := gb168) (o := .cells #[.int .i64 t166, .int .i64 t167] 31 (0, 0)) (by (with_reducible repeat (first | refine blk_drewN ?_ _ | refine blk_drew ?_ | refine blk_alloc ?_ _)); refine blk_put (cs := #[.int .i64 t166, .int .i64 0]) ?_ 1 _ rfl; (with_reducible repeat (first | refine blk_drewN ?_ _ | refine blk_drew ?_ | refine blk_alloc ?_ _)); refine blk_put (cs := #[.int .i64 0, .int .i64 0]) ?_ 0 _ rfl; (with_reducible repeat (first | refine blk_drewN ?_ _ | refine blk_drew ?_ | refine blk_alloc ?_ _)); exact BK168.out) hb); have n3_ := Aside0.mk (below_step (by repeat (first | (with_reducible first | exact HB.out | apply below_alloc | apply pw_below_drewN | apply below_drew1 | refine below_set ?_ GE168.out) | exact HB.out)) hb); clear HO165; clear BK168; clear HB; have HO165 := n0_; have HO171 := n1_; have BK168 := n2_; have HB := n3_; clear n0_ n1_ n2_ n3_; (try clear hb); (try clear hb2); (try clear hk); (try clear hi); (try clear ho0)) | ((with_reducible refine gate_dst (N := 9) rfl ?_); refine box_event ?hg (N := 9) ?hd (cs := #[.slice none 0 0, .int .i64 0, .int .i64 0, .int .i64 0]) (t := 36) ?hr ?_; (case hd => rfl); (case hg => rfl); (case hr => first | (go_simp; done) | (go_simp; rfl)); intro gb175 hg w15 hbox hb; have n0_ := Aside0.mk (Kd.R_below (by (with_reducible repeat (first | apply Kd.R_alloc | apply Kd.R_drewN | apply Kd.R_drew)); exact HO165.out) hb); have n1_ := Aside0.mk (Kd.R_below (by (with_reducible repeat (first | apply Kd.R_alloc | apply Kd.R_drewN | apply Kd.R_drew)); exact HO171.out) hb); have n2_ := Aside0.mk (blk_below (g := gb168) (o := .cells #[.int .i64 t166, .int .i64 t167] 31 (0, 0)) (by (with_reducible repeat (first | refine blk_drewN ?_ _ | refine blk_drew ?_ | refine blk_alloc ?_ _)); exact BK168.out) hb); have n3_ := Aside0.mk (below_step (by repeat (first | (with_reducible first | exact HB.out | apply below_alloc | apply pw_below_drewN | apply below_drew1 | refine below_set ?_ GE168.out) | exact HB.out)) hb); have n4_ := Aside0.mk (hbox); have n5_ := Aside0.mk ((by rw [hg]; exact (below_size (by repeat (first | (with_reducible first | exact HB.out | apply below_alloc | apply pw_below_drewN | apply below_drew1 | refine below_set ?_ GE168.out) | exact HB.out))) : w.heap.size ≤ gb175)); have n6_ := Aside0.mk ((by rw [hg]; exact (below_size (by repeat (first | (with_reducible first | exact HB.out | apply below_alloc | apply pw_below_drewN | apply below_drew1 | refine below_set ?_ GE168.out) | exact HB.out))) : w.heap.size ≤ gb175)); have n7_ := Aside0.mk ((by rw [hg]; exact Nat.ne_of_lt (blk_lt (g := gb168) (o := .cells #[.int .i64 t166, .int .i64 t167] 31 (0, 0)) (by (with_reducible repeat (first | refine blk_drewN ?_ _ | refine blk_drew ?_ | refine blk_alloc ?_ _)); exact BK168.out)) : gb168 ≠ gb175)); have n8_ := Aside0.mk ((by rw [hg]; exact Nat.ne_of_gt (blk_lt (g := gb168) (o := .cells #[.int .i64 t166, .int .i64 t167] 31 (0, 0)) (by (with_reducible repeat (first | refine blk_drewN ?_ _ | refine blk_drew ?_ | refine blk_alloc ?_ _)); exact BK168.out)) : gb175 ≠ gb168)); clear HO165; clear HO171; clear BK168; clear HB; have HO165 := n0_; have HO171 := n1_; have BK168 := n2_; have HB := n3_; have BK175 := n4_; have GW175 := n5_; have GE175 := n6_; have NB168_175 := n7_; have NB175_168 := n8_; clear n0_ n1_ n2_ n3_ n4_ n5_ n6_ n7_ n8_; clear hb hbox hg; obtain ⟨Ao16, co16, eo16⟩ := Kd.R_slice HO171.out; subst eo16; have hnb17 := NB175_168.out; have hnc17 := NB168_175.out; have hcz18_0 : w15.cell? ⟨gb175, 0, none⟩ = some (.slice none 0 0) := (blk_cell BK175.out 0).trans rfl; have hcz18_1 : w15.cell? ⟨gb175, 1, none⟩ = some (.int .i64 0) := (blk_cell BK175.out 1).trans rfl; have hcz18_2 : w15.cell? ⟨gb175, 2, none⟩ = some (.int .i64 0) := (blk_cell BK175.out 2).trans rfl; have hcz18_3 : w15.cell? ⟨gb175, 3, none⟩ = some (.int .i64 0) := (blk_cell BK175.out 3).trans rfl; have hfz18_0 := blk_frozen BK175.out 0; have hfz18_1 := blk_frozen BK175.out 1; have hfz18_2 := blk_frozen BK175.out 2; have hfz18_3 := blk_frozen BK175.out 3) | ((with_reducible refine gate_callee (f := 21) rfl ?_); refine goesL_ (some 29) rfl rfl Try.func21 (by kernel_rfl) rfl #[.string a0, .string a1, .int .i64 a2] rfl (by (try simp only [List.map_toArray, List.map_cons, List.map_nil]); first | done | rfl | (simp only [List.length_drop, List.length_take]; rfl)) ?_; (with_reducible refine (depotref03_Closed.calls k a0 a1 a2 t176 t177 _ A8.out).mono ?_); rintro e w19 ⟨rfl, hb⟩; refine ⟨_, rfl, ?_⟩; have n0_ := Aside0.mk (Kd.R_below (by (with_reducible repeat (first | apply Kd.R_alloc | apply Kd.R_drewN | apply Kd.R_drew)); exact (Kd.R_mono (Kd.R_far (p := ⟨gb175, 3, none⟩) (Kd.R_far (p := ⟨gb175, 2, none⟩) (Kd.R_far (p := ⟨gb175, 1, none⟩) (Kd.R_far (p := ⟨gb175, 0, none⟩) (Kd.R_types HO165.out BK175.out (by decide)) (fun _ hk => hk.2) (.slice Ao16 t169.length co16)) (fun _ hk => hk.2) (.int .i64 t172)) (fun _ hk => hk.2) (.int .i64 t173)) (fun _ hk => hk.2) (.int .i64 t174)) (fun _ h_ => h_.1))) hb); have n1_ := Aside0.mk (Kd.R_below (by (with_reducible repeat (first | apply Kd.R_alloc | apply Kd.R_drewN | apply Kd.R_drew)); exact (Kd.R_mono (Kd.R_far (p := ⟨gb175, 3, none⟩) (Kd.R_far (p := ⟨gb175, 2, none⟩) (Kd.R_far (p := ⟨gb175, 1, none⟩) (Kd.R_far (p := ⟨gb175, 0, none⟩) (Kd.R_types HO171.out BK175.out (by decide)) (fun _ hk => hk.2) (.slice Ao16 t169.length co16)) (fun _ hk => hk.2) (.int .i64 t172)) (fun _ hk => hk.2) (.int .i64 t173)) (fun _ hk => hk.2) (.int .i64 t174)) (fun _ h_ => h_.1))) hb); have n2_ := Aside0.mk (blk_below (g := gb168) (o := .cells #[.int .i64 t166, .int .i64 t167] 31 (0, 0)) (by (with_reducible repeat (first | refine blk_drewN ?_ _ | refine blk_drew ?_ | refine blk_alloc ?_ _)); refine blk_far ?_ NB168_175.out _; (with_reducible repeat (first | refine blk_drewN ?_ _ | refine blk_drew ?_ | refine blk_alloc ?_ _)); refine blk_far ?_ NB168_175.out _; (with_reducible repeat (first | refine blk_drewN ?_ _ | refine blk_drew ?_ | refine blk_alloc ?_ _)); refine blk_far ?_ NB168_175.out _; (with_reducible repeat (first | refine blk_drewN ?_ _ | refine blk_drew ?_ | refine blk_alloc ?_ _)); refine blk_far ?_ NB168_175.out _; (with_reducible repeat (first | refine blk_drewN ?_ _ | refine blk_drew ?_ | refine blk_alloc ?_ _)); exact BK168.out) hb); have n3_ := Aside0.mk (blk_below (g := gb175) (o := .cells #[.slice Ao16 t169.length co16, .int .i64 t172, .int .i64 t173, .int .i64 t174] 36 (0, 0)) (by (with_reducible repeat (first | refine blk_drewN ?_ _ | refine blk_drew ?_ | refine blk_alloc ?_ _)); refine blk_put (cs := #[.slice Ao16 t169.length co16, .int .i64 t172, .int .i64 t173, .int .i64 0]) ?_ 3 _ rfl; (with_reducible repeat (first | refine blk_drewN ?_ _ | refine blk_drew ?_ | refine blk_alloc ?_ _)); refine blk_put (cs := #[.slice Ao16 t169.length co16, .int .i64 t172, .int .i64 0, .int .i64 0]) ?_ 2 _ rfl; (with_reducible repeat (first | refine blk_drewN ?_ _ | refine blk_drew ?_ | refine blk_alloc ?_ _)); refine blk_put (cs := #[.slice Ao16 t169.length co16, .int .i64 0, .int .i64 0, .int .i64 0]) ?_ 1 _ rfl; (with_reducible repeat (first | refine blk_drewN ?_ _ | refine blk_drew ?_ | refine blk_alloc ?_ _)); refine blk_put (cs := #[.slice none 0 0, .int .i64 0, .int .i64 0, .int .i64 0]) ?_ 0 _ rfl; (with_reducible repeat (first | refine blk_drewN ?_ _ | refine blk_drew ?_ | refine blk_alloc ?_ _)); exact BK175.out) hb); have n4_ := Aside0.mk (below_step (by repeat (first | (with_reducible first | exact HB.out | apply below_alloc | apply pw_below_drewN | apply below_drew1 | refine below_set ?_ GE168.out | refine below_set ?_ GE175.out) | exact HB.out)) hb); clear HO165; clear HO171; clear BK168; clear BK175; clear HB; have HO165 := n0_; have HO171 := n1_; have BK168 := n2_; have BK175 := n3_; have HB := n4_; clear n0_ n1_ n2_ n3_ n4_; (try clear hb); (try clear hb2); (try clear hk); (try clear hi)))
    (try simp only [Act.put, List.setIfInBounds_toArray, List.set_cons_zero, List.set_cons_succ])
    go_cut [41] (fun v41 wc => ∃ (kq : Nat) (x41_8 : Bool), v41 = .bool x41_8 ∧ Aside0 (depotlaw03_WireSplits.j0 kq t163 t176 x41_8 t169 t172 t173 t174 = some r) ∧ Aside0 (kq ≤ k) ∧ Aside0 (Kd.R k55 55 wc w.heap.size (fun _ => True) v164 t163) ∧ Aside0 (Kd.R k78 78 wc w.heap.size (fun _ => True) (.slice Ao16 t169.length co16) t169) ∧ Aside0 (wc.heap[gb168]? = some (.cells #[.int .i64 t166, .int .i64 t167] 31 (0, 0))) ∧ Aside0 (wc.heap[gb175]? = some (.cells #[(.slice Ao16 t169.length co16), .int .i64 t172, .int .i64 t173, .int .i64 t174] 36 (0, 0))) ∧ Aside0 (Below w.heap.size w wc))
    case first =>
      have H := HC9.out
      clear HC9
      by_cases c20 : t166 = t176
      · rw [if_pos c20] at H
        have c20b0 : (t166 == t176) = true := beq_iff_eq.mpr c20
        have c20b1 : (t166 != t176) = false := bne_eq_false_iff_eq.mpr c20
        clear c20
        (first | rw [c20b0] | (simp only [i64_w, i32_w]; rw [c20b0]) | skip)
        have H' := Aside0.mk H
        clear H
        have hnb21 := NB168_175.out
        have hnc21 := NB175_168.out
        have hcz22_0 : w19.cell? ⟨gb168, 0, none⟩ = some (.int .i64 t166) := (blk_cell BK168.out 0).trans rfl
        have hcz22_1 : w19.cell? ⟨gb168, 1, none⟩ = some (.int .i64 t167) := (blk_cell BK168.out 1).trans rfl
        have hfz22_0 := blk_frozen BK168.out 0
        have hfz22_1 := blk_frozen BK168.out 1
        go_wp2
        go_meet
        case rel => exact ⟨_, ((t167 != t177)), (by first | rfl | (simp; done) | (simp [*]; done)), H', ⟨by first | omega | exact Nat.le_refl _⟩, ⟨by (with_reducible repeat (first | apply Kd.R_alloc | apply Kd.R_drewN | apply Kd.R_drew)); exact HO165.out⟩, ⟨by (with_reducible repeat (first | apply Kd.R_alloc | apply Kd.R_drewN | apply Kd.R_drew)); exact HO171.out⟩, ⟨by (with_reducible repeat (first | refine blk_drewN ?_ _ | refine blk_drew ?_ | refine blk_alloc ?_ _)); exact BK168.out⟩, ⟨by (with_reducible repeat (first | refine blk_drewN ?_ _ | refine blk_drew ?_ | refine blk_alloc ?_ _)); exact BK175.out⟩, ⟨by repeat (first | (with_reducible first | exact HB.out | apply below_alloc | apply pw_below_drewN | apply below_drew1 | refine below_set ?_ GE168.out | refine below_set ?_ GE175.out) | exact HB.out)⟩⟩
      · rw [if_neg c20] at H
        have c20b0 : (t166 == t176) = false := beq_eq_false_iff_ne.mpr c20
        have c20b1 : (t166 != t176) = true := bne_iff_ne.mpr c20
        (first | rw [c20b0] | (simp only [i64_w, i32_w]; rw [c20b0]) | skip)
        have H' := Aside0.mk H
        clear H
        have hnb23 := NB168_175.out
        have hnc23 := NB175_168.out
        have hcz24_0 : w19.cell? ⟨gb168, 0, none⟩ = some (.int .i64 t166) := (blk_cell BK168.out 0).trans rfl
        have hcz24_1 : w19.cell? ⟨gb168, 1, none⟩ = some (.int .i64 t167) := (blk_cell BK168.out 1).trans rfl
        have hfz24_0 := blk_frozen BK168.out 0
        have hfz24_1 := blk_frozen BK168.out 1
        go_wp2
        go_meet
        case rel => exact ⟨_, (true), (by first | rfl | (simp; done) | (simp [*]; done)), H', ⟨by first | omega | exact Nat.le_refl _⟩, ⟨by (with_reducible repeat (first | apply Kd.R_alloc | apply Kd.R_drewN | apply Kd.R_drew)); exact HO165.out⟩, ⟨by (with_reducible repeat (first | apply Kd.R_alloc | apply Kd.R_drewN | apply Kd.R_drew)); exact HO171.out⟩, ⟨by (with_reducible repeat (first | refine blk_drewN ?_ _ | refine blk_drew ?_ | refine blk_alloc ?_ _)); exact BK168.out⟩, ⟨by (with_reducible repeat (first | refine blk_drewN ?_ _ | refine blk_drew ?_ | refine blk_alloc ?_ _)); exact BK175.out⟩, ⟨by repeat (first | (with_reducible first | exact HB.out | apply below_alloc | apply pw_below_drewN | apply below_drew1 | refine below_set ?_ GE168.out | refine below_set ?_ GE175.out) | exact HB.out)⟩⟩
    case rest =>
      clear HC9
      try clear c1
      try clear c2
      try clear p2
      try clear c4
      try clear c5
      try clear c17
      try clear c18
      try clear c19
      try clear c20
      try clear c20b0
      try clear c20b1
      try clear c21
      try clear c23
      try clear hcz13_0
      try clear hcz13_1
      try clear hcz18_0
      try clear hcz18_1
      try clear hcz18_2
      try clear hcz18_3
      try clear hcz22_0
      try clear hcz22_1
      try clear hcz24_0
      try clear hcz24_1
      try clear hfz13_0
      try clear hfz13_1
      try clear hfz18_0
      try clear hfz18_1
      try clear hfz18_2
      try clear hfz18_3
      try clear hfz22_0
      try clear hfz22_1
      try clear hfz24_0
      try clear hfz24_1
      obtain ⟨kq, x41_8, rfl, HA, HJ8, HO_7, HO_176000, BK168, BK175, HB⟩ := hcut
      cases kq with
      | zero => exact absurd HA.out (by simp [depotlaw03_WireSplits.j0])
      | succ kj8 =>
        have H := HA.out
        clear HA
        simp only [depotlaw03_WireSplits.j0] at H
        by_cases c25 : x41_8 = true
        · subst c25
          have H1 : (some false) = some r := by rw [if_pos rfl] at H; exact H
          clear H
          have H := H1
          clear H1
          obtain rfl := Option.some.inj H
          go_wp2
          go_ret
          exact ⟨by first | rfl | (simp [errW_none, errW_some] <;> rfl) | (simp [*, errW_none, errW_some] <;> rfl), by repeat (first | (with_reducible first | exact HB.out | apply below_alloc | apply pw_below_drewN | apply below_drew1 | refine below_set ?_ GE168.out | refine below_set ?_ GE175.out) | exact HB.out)⟩
        · replace c25 := Bool.eq_false_iff.mpr c25
          subst c25
          have H1 : (if t176 = 0 then ((depotlaw03_same.f kj8 t163 t169 0).bind fun t178 => (some t178)) else (some ((t163.length : Int) == 0))) = some r := by rw [if_neg (show ¬ (false = true) by decide)] at H; exact H
          clear H
          have H := H1
          clear H1
          by_cases c26 : t176 = 0
          · rw [if_pos c26] at H
            have c26b0 : (t176 == 0) = true := beq_iff_eq.mpr c26
            have c26b1 : (t176 != 0) = false := bne_eq_false_iff_eq.mpr c26
            clear c26
            replace H := Option.bind_eq_some_iff.mp H
            obtain ⟨t178, A270, H⟩ := H
            replace H : (some t178) = some r := H
            have A27 := Aside0.mk A270
            clear A270
            obtain rfl := Option.some.inj H
            have hnb28 := NB175_168.out
            have hnc28 := NB168_175.out
            have hcz29_0 : wc.cell? ⟨gb175, 0, none⟩ = some (.slice Ao16 t169.length co16) := (blk_cell BK175.out 0).trans rfl
            have hcz29_1 : wc.cell? ⟨gb175, 1, none⟩ = some (.int .i64 t172) := (blk_cell BK175.out 1).trans rfl
            have hcz29_2 : wc.cell? ⟨gb175, 2, none⟩ = some (.int .i64 t173) := (blk_cell BK175.out 2).trans rfl
            have hcz29_3 : wc.cell? ⟨gb175, 3, none⟩ = some (.int .i64 t174) := (blk_cell BK175.out 3).trans rfl
            have hfz29_0 := blk_frozen BK175.out 0
            have hfz29_1 := blk_frozen BK175.out 1
            have hfz29_2 := blk_frozen BK175.out 2
            have hfz29_3 := blk_frozen BK175.out 3
            obtain ⟨Ao30, co30, eo30⟩ := Kd.R_slice HO_7.out
            subst eo30
            go_wp2_with (first | ((with_reducible refine gate_callee (f := 22) rfl ?_); refine goesL_ (some 50) rfl rfl Try.func22 (by kernel_rfl) rfl #[.slice Ao30 t163.length co30, .slice Ao16 t169.length co16, .int .i64 0] rfl (by (try simp only [List.map_toArray, List.map_cons, List.map_nil]); first | done | rfl | (simp only [List.length_drop, List.length_take]; rfl)) ?_; (with_reducible refine (depotlaw03_same.calls kj8 _ _ t163 _ _ t169 0 t178 _ ?side1 ?side2 ?side3 ?side4 A27.out).mono ?_); (case side1 => repeat (first | exact (Kd.R_reads' HO_7.out).2.2 | (with_reducible refine Kd.C_alloc ?_ _) | (with_reducible refine Kd.C_drewN ?_ _) | (with_reducible refine Kd.C_drew ?_))); (case side2 => exact (Kd.R_reads' HO_7.out).2.1); (case side3 => repeat (first | exact (Kd.R_reads' HO_176000.out).2.2 | (with_reducible refine Kd.C_alloc ?_ _) | (with_reducible refine Kd.C_drewN ?_ _) | (with_reducible refine Kd.C_drew ?_))); (case side4 => exact (Kd.R_reads' HO_176000.out).2.1); rintro e w31 ⟨rfl, hb⟩; refine ⟨_, rfl, ?_⟩; have n0_ := Aside0.mk (Kd.R_below (by (with_reducible repeat (first | apply Kd.R_alloc | apply Kd.R_drewN | apply Kd.R_drew)); exact HO_7.out) hb); have n1_ := Aside0.mk (Kd.R_below (by (with_reducible repeat (first | apply Kd.R_alloc | apply Kd.R_drewN | apply Kd.R_drew)); exact HO_176000.out) hb); have n2_ := Aside0.mk (blk_below (g := gb168) (o := .cells #[.int .i64 t166, .int .i64 t167] 31 (0, 0)) (by (with_reducible repeat (first | refine blk_drewN ?_ _ | refine blk_drew ?_ | refine blk_alloc ?_ _)); exact BK168.out) hb); have n3_ := Aside0.mk (blk_below (g := gb175) (o := .cells #[.slice Ao16 t169.length co16, .int .i64 t172, .int .i64 t173, .int .i64 t174] 36 (0, 0)) (by (with_reducible repeat (first | refine blk_drewN ?_ _ | refine blk_drew ?_ | refine blk_alloc ?_ _)); exact BK175.out) hb); have n4_ := Aside0.mk (below_step (by repeat (first | (with_reducible first | exact HB.out | apply below_alloc | apply pw_below_drewN | apply below_drew1 | refine below_set ?_ GE168.out | refine below_set ?_ GE175.out) | exact HB.out)) hb); clear HO_7; clear HO_176000; clear BK168; clear BK175; clear HB; have HO_7 := n0_; have HO_176000 := n1_; have BK168 := n2_; have BK175 := n3_; have HB := n4_; clear n0_ n1_ n2_ n3_ n4_; (try clear hb); (try clear hb2); (try clear hk); (try clear hi)))
            go_ret
            exact ⟨by first | rfl | (simp [errW_none, errW_some] <;> rfl) | (simp [*, errW_none, errW_some] <;> rfl), by repeat (first | (with_reducible first | exact HB.out | apply below_alloc | apply pw_below_drewN | apply below_drew1 | refine below_set ?_ GE168.out | refine below_set ?_ GE175.out) | exact HB.out)⟩
          · rw [if_neg c26] at H
            have c26b0 : (t176 == 0) = false := beq_eq_false_iff_ne.mpr c26
            have c26b1 : (t176 != 0) = true := bne_iff_ne.mpr c26
            obtain rfl := Option.some.inj H
            obtain ⟨Ao32, co32, eo32⟩ := Kd.R_slice HO_7.out
            subst eo32
            go_wp2
            go_ret
            exact ⟨by first | rfl | (simp [errW_none, errW_some] <;> rfl) | (simp [*, errW_none, errW_some] <;> rfl), by repeat (first | (with_reducible first | exact HB.out | apply below_alloc | apply pw_below_drewN | apply below_drew1 | refine below_set ?_ GE168.out | refine below_set ?_ GE175.out) | exact HB.out)⟩
  · replace c5 := Bool.eq_false_iff.mpr c5
    subst c5
    have H1 : (some false) = some r := by rw [if_neg (show ¬ (false = true) by decide)] at H; exact H
    clear H
    have H := H1
    clear H1
    obtain rfl := Option.some.inj H
    go_enter Try.func4, Try.ntmps4
    go_wp2_with (first | ((with_reducible refine gate_callee (f := 18) rfl ?_); refine goesL_ (some 12) rfl rfl Try.func18 (by kernel_rfl) rfl #[] rfl (by (try simp only [List.map_toArray, List.map_cons, List.map_nil]); first | done | rfl | (simp only [List.length_drop, List.length_take]; rfl)) ?_; (with_reducible refine (depotlaw03_awake.calls k  false _ A4.out).mono ?_); rintro e w33 ⟨rfl, hb⟩; refine ⟨_, rfl, ?_⟩; have n0_ := Aside0.mk (below_step (by repeat (first | (with_reducible first | exact HB.out | apply below_alloc | apply pw_below_drewN | apply below_drew1) | exact HB.out)) hb); clear HB; have HB := n0_; clear n0_; (try clear hb); (try clear hb2); (try clear hk); (try clear hi)))
    go_ret
    exact ⟨by first | rfl | (simp [errW_none, errW_some] <;> rfl) | (simp [*, errW_none, errW_some] <;> rfl), by repeat (first | (with_reducible first | exact HB.out | apply below_alloc | apply pw_below_drewN | apply below_drew1) | exact HB.out)⟩

/-- THE ONE PURE STATEMENT of depotlaw03_WireSplits: yours. -/
def depotlaw03_WireSplits.Pure : Prop := ∀ (a0 : ByteArray) (a1 : ByteArray) (a2 : Int), a0.size ≤ 140737488351232 → a1.size ≤ 140737488351232 → (Lit.int .i64 a2).wf = true → ∃ k, depotlaw03_WireSplits.f k a0 a1 a2 = some true
theorem depotlaw03_WireSplits.walk (P : depotlaw03_WireSplits.Pure) (a0 : ByteArray) (a1 : ByteArray) (a2 : Int) (w : World) (w0 : a0.size ≤ 140737488351232) (w1 : a1.size ≤ 140737488351232) (w2 : (Lit.int .i64 a2).wf = true) :
    Calls Try.prog 4 #[.string a0, .string a1, .int .i64 a2] w fun e w' => e = .returned (.bool true) ∧ Below w.heap.size w w' := by
  obtain ⟨k, h⟩ := P a0 a1 a2 w0 w1 w2
  refine (depotlaw03_WireSplits.calls k a0 a1 a2 true w h).mono ?_
  rintro e w' ⟨rfl, hd⟩
  exact ⟨rfl, hd⟩

end Go.Proofs.Ytnilogameaaooaa.Q
/- The plain reader, phase by phase. -/
namespace Go.Proofs.Ytnilogameaaooaa.Rdr
open Go.RowKit Go.Proofs.Ytnilogameaaooaa.Q Go.Proofs.Ytnilogameaaooaa.Tail Go.Proofs.YtnilogameaaooaaW.PrintWords Go.Proofs.YtnilogameaaooaaW.PrintLast Go.Proofs.YtnilogameaaooaaW.PrintMore Go.Proofs.Ytnilogameaaooaa.Bytes
set_option linter.unusedVariables false
set_option linter.unusedSimpArgs false

/-- The number in bytes, the lowest first. -/
def val : List Int → Int
  | [] => 0
  | c :: l => c + 256 * val l
def Byts (l : List Int) : Prop := ∀ x ∈ l, 0 ≤ x ∧ x < 256
theorem Byts.cons {c : Int} {l : List Int} (h : Byts (c :: l)) : (0 ≤ c ∧ c < 256) ∧ Byts l := ⟨h c List.mem_cons_self, fun x hx => h x (List.mem_cons_of_mem _ hx)⟩
theorem Byts.app {l m : List Int} (h : Byts (l ++ m)) : Byts l ∧ Byts m := ⟨fun x hx => h x (List.mem_append_left _ hx), fun x hx => h x (List.mem_append_right _ hx)⟩
theorem stop_of {p : Ps} (h0 : p.code = 0) (h1 : p.shut = false) : ¬ p.stopped = true := by unfold Ps.stopped; rw [h0, h1]; simp
/-- A reader in the head of an item. -/
structure Head (p : Ps) : Prop where
  code : p.code = 0
  shut : p.shut = false
  item : p.item < (p.plan.size : Int)
  state : p.state = 0
  need : 1 ≤ p.need ∧ p.need ≤ 8
  num : 0 ≤ p.num ∧ p.num < 256 ^ (8 - p.need).toNat
theorem pow_next (j : Int) (h : 1 ≤ j) (h8 : j ≤ 8) : (256 : Int) ^ (8 - (j - 1)).toNat = 256 * 256 ^ (8 - j).toNat := by
  have : (8 - (j - 1)).toNat = (8 - j).toNat + 1 := by omega
  rw [this, Int.pow_succ, Int.mul_comm]
theorem tk_head_more {p : Ps} (h : Head p) {c : Int} (hc : 0 ≤ c ∧ c < 256) (h1 : p.need ≠ 1) : (tk p c).1 = true ∧ tick p c = { p with num := p.num + 256 ^ (8 - p.need).toNat * c, need := p.need - 1, taken := p.taken + 1 } := by
  obtain ⟨o1, o2⟩ := orNum_add p.num c p.need h.num.1 h.num.2 hc.1 hc.2 h.need.1 h.need.2
  have e : tk p c = (true, { p with num := orNum p.num c p.need, need := p.need - 1 }) := by unfold tk; rw [if_pos h.state, if_neg (fun q => h1 q.1)]
  refine ⟨by rw [e], ?_⟩
  unfold tick
  rw [e, o1, Int.mul_comm c]
theorem head_step {p : Ps} (h : Head p) {c : Int} (hc : 0 ≤ c ∧ c < 256) (h1 : p.need ≠ 1) : Head { p with num := p.num + 256 ^ (8 - p.need).toNat * c, need := p.need - 1, taken := p.taken + 1 } := by
  obtain ⟨o1, o2⟩ := orNum_add p.num c p.need h.num.1 h.num.2 hc.1 hc.2 h.need.1 h.need.2
  have hp : (0 : Int) ≤ 256 ^ (8 - p.need).toNat := Int.pow_nonneg (by omega)
  have hm := Int.mul_nonneg hp hc.1
  have hn := h.need
  refine ⟨h.code, h.shut, h.item, h.state, by simp only; omega, by have := h.num.1; simp only; omega, ?_⟩
  simp only
  rw [show 8 - (p.need - 1) = 9 - p.need by omega, Int.mul_comm]
  exact o2
theorem head_app : ∀ (xs : List Int) (p : Ps) (rest : List Int), Head p → Byts xs → (xs.length : Int) < p.need →
    Head { p with num := p.num + 256 ^ (8 - p.need).toNat * val xs, need := p.need - xs.length, taken := p.taken + xs.length } ∧ feed p (xs ++ rest) = feed { p with num := p.num + 256 ^ (8 - p.need).toNat * val xs, need := p.need - xs.length, taken := p.taken + xs.length } rest
  | [], p, rest, h, _, _ => by
    have e : ({ p with num := p.num + 256 ^ (8 - p.need).toNat * val [], need := p.need - (([] : List Int).length : Int), taken := p.taken + (([] : List Int).length : Int) } : Ps) = p := by
      simp [val]
    rw [e]
    exact ⟨h, rfl⟩
  | c :: xs, p, rest, h, hb, hl => by
    obtain ⟨hc, hb⟩ := hb.cons
    have hl : ((xs.length + 1 : Nat) : Int) < p.need := hl
    have h1 : p.need ≠ 1 := by omega
    obtain ⟨t1, t2⟩ := tk_head_more h hc h1
    have hs := head_step h hc h1
    obtain ⟨i1, i2⟩ := head_app xs _ rest hs hb (by simp only; omega)
    have e : ({ ({ p with num := p.num + 256 ^ (8 - p.need).toNat * c, need := p.need - 1, taken := p.taken + 1 } : Ps) with num := ({ p with num := p.num + 256 ^ (8 - p.need).toNat * c, need := p.need - 1, taken := p.taken + 1 } : Ps).num + 256 ^ (8 - (p.need - 1)).toNat * val xs, need := (p.need - 1) - (xs.length : Int), taken := (p.taken + 1) + (xs.length : Int) } : Ps) = { p with num := p.num + 256 ^ (8 - p.need).toNat * val (c :: xs), need := p.need - ((c :: xs).length : Int), taken := p.taken + ((c :: xs).length : Int) } := by
      rw [pow_next p.need h.need.1 h.need.2]
      simp only [val, List.length_cons]
      congr 1
      · push_cast; omega
      · rw [Int.mul_add, Int.add_assoc]
        congr 2
        rw [← Int.mul_assoc, Int.mul_comm 256]
      · push_cast; omega
    rw [← e]
    refine ⟨i1, ?_⟩
    rw [← i2, List.cons_append, feed_more (stop_of h.code h.shut) (by have := h.item; omega) t1 (by rw [t2]; simp only; omega), t2]
/-- The last byte of a head: too long. -/
theorem head_long {p : Ps} (h : Head p) (h1 : p.need = 1) {c : Int} (hc : 0 ≤ c ∧ c < 256) (ht : bt p.plan p.item = 116) (hm : p.most < p.num + 256 ^ (8 - p.need).toNat * c) (rest : List Int) :
    feed p (c :: rest) = ({ p with num := p.num + 256 ^ (8 - p.need).toNat * c, code := 6, place := p.start }, []) := by
  obtain ⟨o1, o2⟩ := orNum_add p.num c p.need h.num.1 h.num.2 hc.1 hc.2 h.need.1 h.need.2
  rw [Int.mul_comm c] at o1
  have e : tk p c = (false, { p with num := orNum p.num c p.need, code := 6, place := p.start }) := by unfold tk; rw [if_pos h.state, if_pos ⟨h1, ht, by rw [o1]; exact hm⟩]
  rw [feed_bad (stop_of h.code h.shut) (by have := h.item; omega) (by rw [e]; simp), e, o1]
/-- The last byte of a head: the phase is done. -/
theorem head_done {p : Ps} (h : Head p) (h1 : p.need = 1) {c : Int} (hc : 0 ≤ c ∧ c < 256) (hno : ¬ (bt p.plan p.item = 116 ∧ p.most < p.num + 256 ^ (8 - p.need).toNat * c)) (rest : List Int) {q : Ps} (hq : q = { p with num := p.num + 256 ^ (8 - p.need).toNat * c, need := 0, taken := p.taken + 1 }) :
    feed p (c :: rest) = ((feed (nx q).2 rest).1, (nx q).1.toList ++ (feed (nx q).2 rest).2) := by
  obtain ⟨o1, o2⟩ := orNum_add p.num c p.need h.num.1 h.num.2 hc.1 hc.2 h.need.1 h.need.2
  rw [Int.mul_comm c] at o1
  have e : tk p c = (true, { p with num := orNum p.num c p.need, need := p.need - 1 }) := by unfold tk; rw [if_pos h.state, if_neg (fun r => hno ⟨r.2.1, by rw [← o1]; exact r.2.2⟩)]
  have hz : p.need - 1 = 0 := by omega
  have e2 : tick p c = q := by unfold tick; rw [e, o1, hq]; simp only [hz]
  have hn : ¬ 0 < (tick p c).need := by rw [e2, hq]; simp
  rw [feed_next (stop_of h.code h.shut) (by have := h.item; omega) (by rw [e]) hn, e2]
/-- A reader in a text's bytes, or in its padding. -/
structure Body (p : Ps) : Prop where
  code : p.code = 0
  shut : p.shut = false
  item : p.item < (p.plan.size : Int)
  need : 1 ≤ p.need
theorem text_app : ∀ (xs : List Int) (p : Ps) (rest : List Int), Body p → p.state = 1 → (xs.length : Int) < p.need →
    Body { p with text := p.text ++ xs, need := p.need - xs.length, taken := p.taken + xs.length } ∧ feed p (xs ++ rest) = feed { p with text := p.text ++ xs, need := p.need - xs.length, taken := p.taken + xs.length } rest
  | [], p, rest, h, _, _ => by
    have e : ({ p with text := p.text ++ [], need := p.need - (([] : List Int).length : Int), taken := p.taken + (([] : List Int).length : Int) } : Ps) = p := by simp
    rw [e]
    exact ⟨h, rfl⟩
  | c :: xs, p, rest, h, hs, hl => by
    have hl : ((xs.length + 1 : Nat) : Int) < p.need := hl
    have t1 := tk_text (c := c) hs
    have t2 := tick_text (c := c) hs
    have hb : Body { p with need := p.need - 1, text := p.text ++ [c], taken := p.taken + 1 } := ⟨h.code, h.shut, h.item, by simp only; omega⟩
    obtain ⟨i1, i2⟩ := text_app xs { p with need := p.need - 1, text := p.text ++ [c], taken := p.taken + 1 } rest hb hs (by simp only; omega)
    have e : ({ ({ p with need := p.need - 1, text := p.text ++ [c], taken := p.taken + 1 } : Ps) with text := (p.text ++ [c]) ++ xs, need := (p.need - 1) - (xs.length : Int), taken := (p.taken + 1) + (xs.length : Int) } : Ps) = { p with text := p.text ++ (c :: xs), need := p.need - ((c :: xs).length : Int), taken := p.taken + ((c :: xs).length : Int) } := by
      simp only [List.length_cons, List.append_assoc, List.cons_append, List.nil_append]
      congr 1
      · push_cast; omega
      · push_cast; omega
    rw [← e]
    refine ⟨i1, ?_⟩
    rw [← i2, List.cons_append, feed_more (stop_of h.code h.shut) (by have := h.item; omega) (by rw [t1]) (by rw [t2]; simp only; omega), t2]
theorem text_done {p : Ps} (h : Body p) (hs : p.state = 1) (h1 : p.need = 1) (c : Int) (rest : List Int) {q : Ps} (hq : q = { p with text := p.text ++ [c], need := 0, taken := p.taken + 1 }) :
    feed p (c :: rest) = ((feed (nx q).2 rest).1, (nx q).1.toList ++ (feed (nx q).2 rest).2) := by
  have hz : p.need - 1 = 0 := by omega
  have e2 : tick p c = q := by rw [tick_text hs, hq]; simp only [hz]
  have hn : ¬ 0 < (tick p c).need := by rw [e2, hq]; simp
  rw [feed_next (stop_of h.code h.shut) (by have := h.item; omega) (by rw [tk_text hs]) hn, e2]
theorem tk_zero {p : Ps} (hs : p.state = 2) : tk p 0 = (true, { p with need := p.need - 1 }) := by
  unfold tk
  rw [if_neg (by omega), if_neg (by omega), if_pos rfl]
theorem pad_app : ∀ (j : Nat) (p : Ps) (rest : List Int), Body p → p.state = 2 → (j : Int) < p.need →
    Body { p with need := p.need - j, taken := p.taken + j } ∧ feed p (List.replicate j 0 ++ rest) = feed { p with need := p.need - j, taken := p.taken + j } rest
  | 0, p, rest, h, _, _ => by
    have e : ({ p with need := p.need - ((0 : Nat) : Int), taken := p.taken + ((0 : Nat) : Int) } : Ps) = p := by simp
    rw [e]
    exact ⟨h, rfl⟩
  | j + 1, p, rest, h, hs, hl => by
    have t2 : tick p 0 = { p with need := p.need - 1, taken := p.taken + 1 } := by unfold tick; rw [tk_zero hs]
    have hb : Body { p with need := p.need - 1, taken := p.taken + 1 } := ⟨h.code, h.shut, h.item, by simp only; omega⟩
    obtain ⟨i1, i2⟩ := pad_app j { p with need := p.need - 1, taken := p.taken + 1 } rest hb hs (by simp only; omega)
    have e : ({ ({ p with need := p.need - 1, taken := p.taken + 1 } : Ps) with need := (p.need - 1) - (j : Int), taken := (p.taken + 1) + (j : Int) } : Ps) = { p with need := p.need - ((j + 1 : Nat) : Int), taken := p.taken + ((j + 1 : Nat) : Int) } := by
      have n1 : (p.need - 1) - (j : Int) = p.need - ((j + 1 : Nat) : Int) := by omega
      have n2 : (p.taken + 1) + (j : Int) = p.taken + ((j + 1 : Nat) : Int) := by omega
      simp only [n1, n2]
    rw [← e]
    refine ⟨i1, ?_⟩
    rw [← i2, List.replicate_succ, List.cons_append, feed_more (stop_of h.code h.shut) (by have := h.item; omega) (by rw [tk_zero hs]) (by rw [t2]; simp only; omega), t2]
theorem pad_bad {p : Ps} (h : Body p) (hs : p.state = 2) {c : Int} (hc : c ≠ 0) (rest : List Int) : feed p (c :: rest) = ({ p with code := 7, place := p.taken }, []) := by
  have e : tk p c = (false, { p with code := 7, place := p.taken }) := by unfold tk; rw [if_neg (by omega), if_neg (by omega), if_neg hc]
  rw [feed_bad (stop_of h.code h.shut) (by have := h.item; omega) (by rw [e]; simp), e]
theorem pad_done {p : Ps} (h : Body p) (hs : p.state = 2) (h1 : p.need = 1) (rest : List Int) {q : Ps} (hq : q = { p with need := 0, taken := p.taken + 1 }) :
    feed p (0 :: rest) = ((feed (nx q).2 rest).1, (nx q).1.toList ++ (feed (nx q).2 rest).2) := by
  have hz : p.need - 1 = 0 := by omega
  have e2 : tick p 0 = q := by unfold tick; rw [tk_zero hs, hq]; simp only [hz]
  have hn : ¬ 0 < (tick p 0).need := by rw [e2, hq]; simp
  rw [feed_next (stop_of h.code h.shut) (by have := h.item; omega) (by rw [tk_zero hs]) hn, e2]
end Go.Proofs.Ytnilogameaaooaa.Rdr
/- What a whole text is to the plain reader: item by item. -/
namespace Go.Proofs.Ytnilogameaaooaa.Rdr
open Go.RowKit Go.Proofs.Ytnilogameaaooaa.Q Go.Proofs.Ytnilogameaaooaa.Tail Go.Proofs.YtnilogameaaooaaW.PrintWords Go.Proofs.YtnilogameaaooaaW.PrintLast Go.Proofs.YtnilogameaaooaaW.PrintMore Go.Proofs.Ytnilogameaaooaa.Bytes
set_option linter.unusedVariables false
set_option linter.unusedSimpArgs false

def firstNZ : List Int → Option Nat
  | [] => none
  | c :: l => if c = 0 then (firstNZ l).map (· + 1) else some 0
theorem firstNZ_none : ∀ (l : List Int), firstNZ l = none → l = List.replicate l.length 0
  | [], _ => rfl
  | c :: l, h => by
    simp only [firstNZ] at h
    split at h
    · rename_i hc
      have := firstNZ_none l (by cases hf : firstNZ l with
        | none => rfl
        | some j => rw [hf] at h; cases h)
      rw [hc, List.length_cons, List.replicate_succ, ← this]
    · cases h
theorem firstNZ_some : ∀ (l : List Int) (j : Nat), firstNZ l = some j → ∃ c r, c ≠ 0 ∧ l = List.replicate j 0 ++ c :: r
  | [], j, h => by cases h
  | c :: l, j, h => by
    simp only [firstNZ] at h
    split at h
    · rename_i hc
      cases hf : firstNZ l with
      | none => rw [hf] at h; cases h
      | some i =>
        rw [hf] at h
        injection h with h
        subst h
        obtain ⟨d, r, hd, e⟩ := firstNZ_some l i hf
        exact ⟨d, r, hd, by rw [hc, e, List.replicate_succ, List.cons_append]⟩
    · rename_i hc
      injection h with h
      subst h
      exact ⟨c, l, hc, rfl⟩
theorem val_app : ∀ (xs : List Int) (ys : List Int), val (xs ++ ys) = val xs + 256 ^ xs.length * val ys
  | [], ys => by simp [val]
  | c :: xs, ys => by
    simp only [List.cons_append, val, val_app xs ys, List.length_cons]
    rw [Int.pow_succ, Int.mul_add, Int.add_assoc]
    congr 2
    rw [← Int.mul_assoc, Int.mul_comm 256]
theorem val_nonneg : ∀ (xs : List Int), Byts xs → 0 ≤ val xs
  | [], _ => Int.le_refl _
  | c :: xs, h => by
    have := val_nonneg xs h.cons.2
    have := h.cons.1.1
    simp only [val]; omega
def parse (m : Int) : List UInt8 → List Int → Int → List S55 × Int × Int × Int
  | [], b, t => if b = [] then ([], 0, 0, t) else ([], 5, t, t)
  | c :: l, b, t =>
    if b.length < 8 then ([], 0, 0, t + b.length)
    else if c = 105 then (⟨true, val (b.take 8), ⟨#[]⟩⟩ :: (parse m l (b.drop 8) (t + 8)).1, (parse m l (b.drop 8) (t + 8)).2)
    else if m < val (b.take 8) then ([], 6, t, t + 7)
    else
      match firstNZ (((b.drop 8).drop (val (b.take 8)).toNat).take (padOf (val (b.take 8)).toNat)) with
      | some j => ([], 7, t + 8 + (val (b.take 8)).toNat + j, t + 8 + (val (b.take 8)).toNat + j)
      | none =>
        if (b.drop 8).length < (val (b.take 8)).toNat + padOf (val (b.take 8)).toNat then ([], 0, 0, t + b.length)
        else (⟨false, 0, strOfNums ((b.drop 8).take (val (b.take 8)).toNat)⟩ :: (parse m l ((b.drop 8).drop ((val (b.take 8)).toNat + padOf (val (b.take 8)).toNat)) (t + 8 + (val (b.take 8)).toNat + padOf (val (b.take 8)).toNat)).1, (parse m l ((b.drop 8).drop ((val (b.take 8)).toNat + padOf (val (b.take 8)).toNat)) (t + 8 + (val (b.take 8)).toNat + padOf (val (b.take 8)).toNat)).2)
/-- A reader at the beginning of an item. -/
structure Fresh (p : Ps) : Prop where
  code : p.code = 0
  place : p.place = 0
  shut : p.shut = false
  state : p.state = 0
  need : p.need = 8
  num : p.num = 0
  text : p.text = []
  start : p.start = p.taken
/-- What feed has answered is what was parsed. -/
structure Answers (p : Ps) (r : Ps × List S55) (s : List S55 × Int × Int × Int) : Prop where
  items : r.2 = s.1
  code : r.1.code = s.2.1
  place : r.1.place = s.2.2.1
  taken : r.1.taken = s.2.2.2
  item : r.1.item = p.item + (s.1.length : Int)
  plan : r.1.plan = p.plan
  shut : r.1.shut = false
theorem fresh_next {q : Ps} (h0 : q.code = 0) (h1 : q.place = 0) (h2 : q.shut = false) : Fresh q.next := ⟨h0, h1, h2, rfl, rfl, rfl, rfl, rfl⟩
/-- One item more in front. -/
theorem answers_cons {p q : Ps} {it : S55} {r : Ps × List S55} {s : List S55 × Int × Int × Int} (h : Answers q.next r s) (hi : q.item = p.item) (hp : q.plan = p.plan) :
    Answers p (r.1, (some it).toList ++ r.2) (it :: s.1, s.2) := by
  refine ⟨by rw [h.items]; rfl, h.code, h.place, h.taken, ?_, h.plan.trans hp, h.shut⟩
  have := h.item
  simp only [List.length_cons]
  rw [this]
  show q.item + 1 + (s.1.length : Int) = p.item + ((s.1.length + 1 : Nat) : Int)
  omega
end Go.Proofs.Ytnilogameaaooaa.Rdr
/- A text's bytes and its padding, to the plain reader. -/
namespace Go.Proofs.Ytnilogameaaooaa.Rdr
open Go.RowKit Go.Proofs.Ytnilogameaaooaa.Q Go.Proofs.Ytnilogameaaooaa.Tail Go.Proofs.YtnilogameaaooaaW.PrintWords Go.Proofs.YtnilogameaaooaaW.PrintLast Go.Proofs.YtnilogameaaooaaW.PrintMore Go.Proofs.Ytnilogameaaooaa.Bytes
set_option linter.unusedVariables false
set_option linter.unusedSimpArgs false

/-- A reader at the beginning of a text's n bytes, n at least 1. -/
structure Txt (p : Ps) (n : Nat) : Prop where
  body : Body p
  pos : 1 ≤ n
  state : p.state = 1
  need : p.need = (n : Int)
  num : p.num = (n : Int)
  text : p.text = []
  letter : bt p.plan p.item ≠ 105
/-- The same reader otherwise. -/
structure Like (p q : Ps) : Prop where
  code : q.code = p.code
  place : q.place = p.place
  shut : q.shut = p.shut
  plan : q.plan = p.plan
  item : q.item = p.item
  most : q.most = p.most
theorem split_at (r : List Int) (n : Nat) (h1 : 1 ≤ n) (h : n ≤ r.length) : ∃ y, r = r.take (n - 1) ++ y :: r.drop n ∧ r.take n = r.take (n - 1) ++ [y] := by
  have hlt : n - 1 < r.length := by omega
  refine ⟨r[n - 1], ?_, ?_⟩
  · have e := List.drop_eq_getElem_cons hlt
    rw [show n - 1 + 1 = n by omega] at e
    rw [← e, List.take_append_drop]
  · have e : r.take (n - 1 + 1) = r.take (n - 1) ++ r[n - 1]?.toList := List.take_add_one
    rw [show n - 1 + 1 = n by omega, List.getElem?_eq_getElem hlt] at e
    exact e
theorem text_cut {p : Ps} {n : Nat} (h : Txt p n) (r : List Int) (hr : r.length < n) : ∃ q, feed p r = (q, []) ∧ Like p q ∧ q.taken = p.taken + r.length := by
  obtain ⟨_, e⟩ := text_app r p [] h.body h.state (by rw [h.need]; omega)
  rw [List.append_nil] at e
  rw [e]
  exact ⟨_, rfl, ⟨rfl, rfl, rfl, rfl, rfl, rfl⟩, rfl⟩
/-- All the bytes of the text are there: what comes then. -/
theorem text_full {p : Ps} {n : Nat} (h : Txt p n) (r : List Int) (hr : n ≤ r.length) : ∃ q : Ps, feed p r = ((feed (nx q).2 (r.drop n)).1, (nx q).1.toList ++ (feed (nx q).2 (r.drop n)).2) ∧ Like p q ∧ q.taken = p.taken + n ∧ q.text = r.take n ∧ q.state = 1 ∧ q.num = (n : Int) := by
  obtain ⟨y, e1, e2⟩ := split_at r n h.pos hr
  have hl : (r.take (n - 1)).length = n - 1 := by rw [List.length_take]; omega
  obtain ⟨hb, e3⟩ := text_app (r.take (n - 1)) p (y :: r.drop n) h.body h.state (by rw [h.need, hl]; have := h.pos; omega)
  have hn1 : p.need - ((r.take (n - 1)).length : Int) = 1 := by rw [h.need, hl]; have := h.pos; omega
  have e4 := text_done hb h.state hn1 y (r.drop n) rfl
  refine ⟨_, (congrArg (feed p) e1).trans (e3.trans e4), ⟨rfl, rfl, rfl, rfl, rfl, rfl⟩, ?_, ?_, h.state, h.num⟩
  · show p.taken + ((r.take (n - 1)).length : Int) + 1 = p.taken + (n : Int)
    rw [hl]; have := h.pos; omega
  · show (p.text ++ r.take (n - 1)) ++ [y] = r.take n
    rw [h.text, List.nil_append, e2]
theorem padOf_mod (n : Nat) (h : n % 8 ≠ 0) : ((padOf n : Nat) : Int) = 8 - (n : Int) % 8 := by unfold padOf; omega
theorem padOf_zero (n : Nat) (h : n % 8 = 0) : padOf n = 0 := by unfold padOf; omega
theorem text_bad {p : Ps} {n : Nat} (h : Txt p n) (r : List Int) {j : Nat} (hj : firstNZ ((r.drop n).take (padOf n)) = some j) :
    ∃ q, feed p r = (q, []) ∧ q.code = 7 ∧ q.place = p.taken + n + j ∧ q.taken = p.taken + n + j ∧ q.item = p.item ∧ q.plan = p.plan ∧ q.shut = p.shut := by
  obtain ⟨c, t, hc, et⟩ := firstNZ_some _ j hj
  have hlen : j < (r.drop n).length ∧ j < padOf n := by
    have := congrArg List.length et
    simp only [List.length_take, List.length_append, List.length_replicate, List.length_cons] at this
    omega
  have hr : n ≤ r.length := by have := hlen.1; rw [List.length_drop] at this; omega
  have hm : n % 8 ≠ 0 := fun q => by have := padOf_zero n q; omega
  obtain ⟨q, e1, hk, ht, hx, hs, hnum⟩ := text_full h r hr
  have e2 : nx q = (none, { q with state := 2, need := 8 - q.num % 8 }) := by
    unfold nx
    rw [if_neg (by rw [hk.plan, hk.item]; exact h.letter), if_neg (by omega), if_pos ⟨hs, by rw [hnum]; omega⟩]
  rw [e2] at e1
  have hneed : 8 - q.num % 8 = ((padOf n : Nat) : Int) := by rw [hnum, padOf_mod n hm]
  have hb : Body { q with state := 2, need := 8 - q.num % 8 } := ⟨by rw [← h.body.code]; exact hk.code, by rw [← h.body.shut]; exact hk.shut, by show q.item < (q.plan.size : Int); rw [hk.item, hk.plan]; exact h.body.item, by show 1 ≤ 8 - q.num % 8; omega⟩
  have es : r.drop n = List.replicate j 0 ++ (c :: (t ++ (r.drop n).drop (padOf n))) := by
    refine (List.take_append_drop (padOf n) (r.drop n)).symm.trans ?_
    rw [et, List.append_assoc, List.cons_append]
  obtain ⟨hb2, e3⟩ := pad_app j _ (c :: (t ++ (r.drop n).drop (padOf n))) hb rfl (by show (j : Int) < 8 - q.num % 8; rw [hneed]; omega)
  have e4 := pad_bad hb2 rfl hc (t ++ (r.drop n).drop (padOf n))
  have e5 : feed { q with state := 2, need := 8 - q.num % 8 } (r.drop n) = _ := (congrArg (feed _) es).trans (e3.trans e4)
  simp only at e1
  rw [e5] at e1
  refine ⟨_, e1, rfl, ?_, ?_, hk.item, hk.plan, hk.shut⟩
  · show q.taken + (j : Int) = _
    rw [ht]
  · show q.taken + (j : Int) = _
    rw [ht]
/-- The padding is not whole yet, or the text is not. -/
theorem text_short {p : Ps} {n : Nat} (h : Txt p n) (r : List Int) (hz : firstNZ ((r.drop n).take (padOf n)) = none) (hr : r.length < n + padOf n) :
    ∃ q, feed p r = (q, []) ∧ Like p q ∧ q.taken = p.taken + r.length := by
  by_cases hn : r.length < n
  · exact text_cut h r hn
  · have hr2 : n ≤ r.length := by omega
    have hm : n % 8 ≠ 0 := fun q => by have := padOf_zero n q; omega
    obtain ⟨q, e1, hk, ht, hx, hs, hnum⟩ := text_full h r hr2
    have e2 : nx q = (none, { q with state := 2, need := 8 - q.num % 8 }) := by
      unfold nx
      rw [if_neg (by rw [hk.plan, hk.item]; exact h.letter), if_neg (by omega), if_pos ⟨hs, by rw [hnum]; omega⟩]
    rw [e2] at e1
    have hneed : 8 - q.num % 8 = ((padOf n : Nat) : Int) := by rw [hnum, padOf_mod n hm]
    have hb : Body { q with state := 2, need := 8 - q.num % 8 } := ⟨by rw [← h.body.code]; exact hk.code, by rw [← h.body.shut]; exact hk.shut, by show q.item < (q.plan.size : Int); rw [hk.item, hk.plan]; exact h.body.item, by show 1 ≤ 8 - q.num % 8; omega⟩
    have hd : (r.drop n).length < padOf n := by rw [List.length_drop]; omega
    rw [List.take_of_length_le (by omega)] at hz
    have es := firstNZ_none _ hz
    obtain ⟨_, e3⟩ := pad_app (r.drop n).length _ [] hb rfl (by show (((r.drop n).length : Nat) : Int) < 8 - q.num % 8; rw [hneed]; omega)
    rw [List.append_nil, ← es] at e3
    simp only at e1
    rw [e3] at e1
    refine ⟨_, e1, ⟨hk.code, hk.place, hk.shut, hk.plan, hk.item, hk.most⟩, ?_⟩
    show q.taken + (((r.drop n).length : Nat) : Int) = _
    rw [ht, List.length_drop]
    omega
/-- The text and its padding are whole. -/
theorem text_whole {p : Ps} {n : Nat} (h : Txt p n) (r : List Int) (hz : firstNZ ((r.drop n).take (padOf n)) = none) (hr : n + padOf n ≤ r.length) :
    ∃ q : Ps, feed p r = ((feed q.next (r.drop (n + padOf n))).1, (some (⟨false, 0, strOfNums (r.take n)⟩ : S55)).toList ++ (feed q.next (r.drop (n + padOf n))).2) ∧ Like p q ∧ q.taken = p.taken + n + padOf n := by
  obtain ⟨q, e1, hk, ht, hx, hs, hnum⟩ := text_full h r (by omega)
  by_cases hm : n % 8 = 0
  · have e2 : nx q = (some ⟨false, 0, strOfNums q.text⟩, q.next) := by
      unfold nx
      rw [if_neg (by rw [hk.plan, hk.item]; exact h.letter), if_neg (by omega), if_neg (fun z => z.2 (by rw [hnum]; omega))]
    rw [e2, hx] at e1
    refine ⟨q, ?_, hk, by rw [ht, padOf_zero n hm]; simp⟩
    rw [padOf_zero n hm, Nat.add_zero]
    exact e1
  · have e2 : nx q = (none, { q with state := 2, need := 8 - q.num % 8 }) := by
      unfold nx
      rw [if_neg (by rw [hk.plan, hk.item]; exact h.letter), if_neg (by omega), if_pos ⟨hs, by rw [hnum]; omega⟩]
    rw [e2] at e1
    have hneed : 8 - q.num % 8 = ((padOf n : Nat) : Int) := by rw [hnum, padOf_mod n hm]
    have hb : Body { q with state := 2, need := 8 - q.num % 8 } := ⟨by rw [← h.body.code]; exact hk.code, by rw [← h.body.shut]; exact hk.shut, by show q.item < (q.plan.size : Int); rw [hk.item, hk.plan]; exact h.body.item, by show 1 ≤ 8 - q.num % 8; omega⟩
    have hp : 1 ≤ padOf n := by unfold padOf; omega
    have hlt : ((r.drop n).take (padOf n)).length = padOf n := by rw [List.length_take, List.length_drop]; omega
    have es := firstNZ_none _ hz
    rw [hlt] at es
    have ed : r.drop n = List.replicate (padOf n - 1) 0 ++ (0 :: r.drop (n + padOf n)) := by
      refine (List.take_append_drop (padOf n) (r.drop n)).symm.trans ?_
      rw [es, List.drop_drop]
      have : List.replicate (padOf n) (0 : Int) = List.replicate (padOf n - 1) 0 ++ [0] := by
        rw [← List.replicate_succ', show padOf n - 1 + 1 = padOf n by omega]
      rw [this, List.append_assoc]
      rfl
    obtain ⟨hb2, e3⟩ := pad_app (padOf n - 1) _ (0 :: r.drop (n + padOf n)) hb rfl (by show ((padOf n - 1 : Nat) : Int) < 8 - q.num % 8; rw [hneed]; omega)
    obtain ⟨u, hu⟩ : ∃ u : Ps, u = { q with state := 2, need := 0, taken := q.taken + ((padOf n - 1 : Nat) : Int) + 1 } := ⟨_, rfl⟩
    have e4 := pad_done hb2 rfl (by show 8 - q.num % 8 - ((padOf n - 1 : Nat) : Int) = 1; rw [hneed]; omega) (r.drop (n + padOf n)) (q := u) hu
    have e5 : feed { q with state := 2, need := 8 - q.num % 8 } (r.drop n) = _ := (congrArg (feed _) ed).trans (e3.trans e4)
    simp only at e1
    rw [e5] at e1
    have e6 : ∀ (u : Ps), u.plan = q.plan → u.item = q.item → u.state = 2 → u.text = q.text → nx u = (some ⟨false, 0, strOfNums q.text⟩, u.next) := by
      intro u u1 u2 u3 u4
      unfold nx
      rw [if_neg (by rw [u1, u2, hk.plan, hk.item]; exact h.letter), if_neg (by omega), if_neg (by omega), u4]
    rw [e6 u (by rw [hu]) (by rw [hu]) (by rw [hu]) (by rw [hu]), hx] at e1
    refine ⟨u, e1, ⟨by rw [hu]; exact hk.code, by rw [hu]; exact hk.place, by rw [hu]; exact hk.shut, by rw [hu]; exact hk.plan, by rw [hu]; exact hk.item, by rw [hu]; exact hk.most⟩, ?_⟩
    rw [hu]
    show q.taken + ((padOf n - 1 : Nat) : Int) + 1 = _
    rw [ht]
    omega
end Go.Proofs.Ytnilogameaaooaa.Rdr
/- What a whole text is to the plain reader: feed is parse. -/
namespace Go.Proofs.Ytnilogameaaooaa.Rdr
open Go.RowKit Go.Proofs.Ytnilogameaaooaa.Q Go.Proofs.Ytnilogameaaooaa.Tail Go.Proofs.YtnilogameaaooaaW.PrintWords Go.Proofs.YtnilogameaaooaaW.PrintLast Go.Proofs.YtnilogameaaooaaW.PrintMore Go.Proofs.Ytnilogameaaooaa.Bytes
set_option linter.unusedVariables false
set_option linter.unusedSimpArgs false

theorem split8 (b : List Int) (h : 8 ≤ b.length) : ∃ xs y rest, xs.length = 7 ∧ b = xs ++ y :: rest ∧ b.take 8 = xs ++ [y] ∧ b.drop 8 = rest := by
  obtain ⟨y, e1, e2⟩ := split_at b 8 (by omega) h
  exact ⟨b.take 7, y, b.drop 8, by rw [List.length_take]; omega, e1, e2, rfl⟩
theorem answers_of_next {p q : Ps} {it : S55} {b r : List Int} {s : List S55 × Int × Int × Int} (e : feed p b = ((feed q.next r).1, (some it).toList ++ (feed q.next r).2)) (h : Answers q.next (feed q.next r) s) (hi : q.item = p.item) (hp : q.plan = p.plan) : Answers p (feed p b) (it :: s.1, s.2) := by
  rw [e]
  exact answers_cons h hi hp
theorem feed_parse : ∀ (l : List UInt8) (p : Ps) (b : List Int), Fresh p → 0 ≤ p.item → (bs p.plan).drop p.item.toNat = l → p.item ≤ (p.plan.size : Int) → (∀ c ∈ l, c = 105 ∨ c = 116) → 0 ≤ p.most → Byts b → Answers p (feed p b) (parse p.most l b p.taken)
  | [], p, b, hF, h0, hl, hi, _, _, _ => by
    have hit : p.item = (p.plan.size : Int) := by
      have := congrArg List.length hl
      rw [List.length_drop, ← size_bs] at this
      simp at this
      omega
    cases b with
    | nil =>
      have e : parse p.most [] [] p.taken = ([], 0, 0, p.taken) := by simp only [parse]; rfl
      rw [e]
      exact ⟨rfl, hF.code, hF.place, rfl, by show p.item = p.item + ((0 : Nat) : Int); omega, rfl, hF.shut⟩
    | cons c cs =>
      have e : parse p.most [] (c :: cs) p.taken = ([], 5, p.taken, p.taken) := by simp only [parse]; rw [if_neg (by simp)]
      rw [e, feed_trail (stop_of hF.code hF.shut) hit]
      exact ⟨rfl, rfl, rfl, rfl, by show p.item = p.item + ((0 : Nat) : Int); omega, rfl, hF.shut⟩
  | c :: l, p, b, hF, h0, hl, hi, hlet, hm, hb => by
    have hlen : p.item.toNat < (bs p.plan).length := by
      have := congrArg List.length hl
      rw [List.length_drop, List.length_cons] at this
      omega
    have hit : p.item < (p.plan.size : Int) := by rw [← size_bs] at hlen; omega
    obtain ⟨k, hk⟩ := Int.eq_ofNat_of_zero_le h0
    have hks : k < p.plan.size := by omega
    have hcd := List.drop_eq_getElem_cons hlen
    rw [hl] at hcd
    have hce : c = (bs p.plan)[p.item.toNat] := (List.cons.inj hcd).1
    have hle : l = (bs p.plan).drop (p.item.toNat + 1) := (List.cons.inj hcd).2
    have hbt : bt p.plan p.item = (c.toNat : Int) := by
      rw [bt_bs, List.getD_eq_getElem?_getD, List.getElem?_eq_getElem hlen, ← hce]
      rfl
    have hd : Head p := ⟨hF.code, hF.shut, hit, hF.state, by rw [hF.need]; omega, by rw [hF.num, hF.need]; decide⟩
    have hih : ∀ (q : Ps) (r : List Int), q.code = 0 → q.place = 0 → q.shut = false → q.item = p.item → q.plan = p.plan → q.most = p.most → Byts r → Answers q.next (feed q.next r) (parse p.most l r q.taken) := by
      intro q r q1 q2 q3 q4 q5 q6 q7
      have hdr : (bs q.next.plan).drop q.next.item.toNat = l := by
        show (bs q.plan).drop (q.item + 1).toNat = l
        rw [q5, q4, hle]
        congr 1
        omega
      have := feed_parse l q.next r (fresh_next q1 q2 q3) (by show 0 ≤ q.item + 1; omega) hdr (by show q.item + 1 ≤ (q.plan.size : Int); rw [q5]; omega) (fun d hd => hlet d (List.mem_cons_of_mem _ hd)) (by show 0 ≤ q.most; omega) q7
      have e1 : q.next.most = p.most := q6
      have e2 : q.next.taken = q.taken := rfl
      rw [e1, e2] at this
      exact this
    by_cases h8 : b.length < 8
    · have e : parse p.most (c :: l) b p.taken = ([], 0, 0, p.taken + b.length) := by simp only [parse]; rw [if_pos h8]
      obtain ⟨_, e1⟩ := head_app b p [] hd hb (by rw [hF.need]; omega)
      rw [List.append_nil] at e1
      rw [e, e1]
      exact ⟨rfl, hF.code, hF.place, rfl, by show p.item = p.item + ((0 : Nat) : Int); omega, rfl, hF.shut⟩
    · obtain ⟨xs, y, rest, hx7, hbe, ht8, hd8⟩ := split8 b (by omega)
      have hby := hb
      rw [hbe] at hby
      obtain ⟨hbx, hbyr⟩ := hby.app
      obtain ⟨hy, hbr⟩ := hbyr.cons
      obtain ⟨hd1, e1⟩ := head_app xs p (y :: rest) hd hbx (by rw [hF.need, hx7]; omega)
      rw [← hbe] at e1
      obtain ⟨p1, hp1⟩ : ∃ p1 : Ps, p1 = { p with num := p.num + 256 ^ (8 - p.need).toNat * val xs, need := p.need - xs.length, taken := p.taken + xs.length } := ⟨_, rfl⟩
      rw [← hp1] at hd1 e1
      have n1 : p1.need = 1 := by rw [hp1]; show p.need - (xs.length : Int) = 1; rw [hF.need, hx7]; rfl
      have hpw : (256 : Int) ^ (8 - (8 : Int)).toNat = 1 := by decide
      have hN : p1.num + 256 ^ (8 - p1.need).toNat * y = val (b.take 8) := by
        rw [n1, hp1, ht8, val_app, hx7]
        show p.num + 256 ^ (8 - p.need).toNat * val xs + 256 ^ (8 - (1 : Int)).toNat * y = _
        rw [hF.num, hF.need, hpw]
        have : (8 - (1 : Int)).toNat = 7 := rfl
        rw [this]
        simp [val]
      have hV0 : 0 ≤ val (b.take 8) := val_nonneg _ (fun x hx => hb x (List.mem_of_mem_take hx))
      simp only [parse]
      rw [if_neg h8]
      generalize val (b.take 8) = V at hN hV0 ⊢
      rw [hd8]
      have f1 : p1.code = 0 := by rw [hp1]; exact hF.code
      have f2 : p1.place = 0 := by rw [hp1]; exact hF.place
      have f3 : p1.shut = false := by rw [hp1]; exact hF.shut
      have f4 : p1.item = p.item := by rw [hp1]
      have f5 : p1.plan = p.plan := by rw [hp1]
      have f6 : p1.most = p.most := by rw [hp1]
      have f7 : p1.taken = p.taken + 7 := by rw [hp1]; show p.taken + (xs.length : Int) = _; rw [hx7]; rfl
      have f8 : p1.start = p.taken := by rw [hp1]; exact hF.start
      have f9 : p1.text = [] := by rw [hp1]; exact hF.text
      have f10 : p1.state = 0 := by rw [hp1]; exact hF.state
      obtain ⟨q, hq⟩ : ∃ q : Ps, q = { p1 with num := p1.num + 256 ^ (8 - p1.need).toNat * y, need := 0, taken := p1.taken + 1 } := ⟨_, rfl⟩
      have g1 : q.code = 0 := by rw [hq]; exact f1
      have g2 : q.place = 0 := by rw [hq]; exact f2
      have g3 : q.shut = false := by rw [hq]; exact f3
      have g4 : q.item = p.item := by rw [hq]; exact f4
      have g5 : q.plan = p.plan := by rw [hq]; exact f5
      have g6 : q.most = p.most := by rw [hq]; exact f6
      have g7 : q.taken = p.taken + 8 := by rw [hq]; show p1.taken + 1 = _; omega
      have g8 : q.num = V := by rw [hq]; exact hN
      have g9 : q.text = [] := by rw [hq]; exact f9
      have g10 : q.state = 0 := by rw [hq]; exact f10
      have gb : bt q.plan q.item = (c.toNat : Int) := by rw [g5, g4]; exact hbt
      by_cases hc5 : c = 105
      · rw [if_pos hc5]
        have hb5 : bt q.plan q.item = 105 := by rw [gb, hc5]; rfl
        have e2 := head_done hd1 n1 hy (fun z => by have := z.1; rw [f5, f4, hbt, hc5] at this; exact absurd this (by decide)) rest hq
        have e3 : nx q = (some ⟨true, V, ⟨#[]⟩⟩, q.next) := by unfold nx; rw [if_pos hb5, g8]
        rw [e3] at e2
        have := hih q rest g1 g2 g3 g4 g5 g6 hbr
        rw [g7] at this
        exact answers_of_next (e1.trans e2) this g4 g5
      · rw [if_neg hc5]
        have hc6 : c = 116 := (hlet c List.mem_cons_self).resolve_left hc5
        have hb6 : bt q.plan q.item ≠ 105 := by rw [gb, hc6]; decide
        have hb7 : bt p1.plan p1.item = 116 := by rw [f5, f4, hbt, hc6]; rfl
        by_cases hlong : p.most < V
        · rw [if_pos hlong]
          have e2 := head_long hd1 n1 hy hb7 (by rw [f6, hN]; exact hlong) rest
          rw [e1.trans e2]
          exact ⟨rfl, rfl, f8, f7, by show p1.item = p.item + ((0 : Nat) : Int); omega, f5, f3⟩
        · rw [if_neg hlong]
          have e2 := head_done hd1 n1 hy (fun z => hlong (by have := z.2; rw [f6, hN] at this; exact this)) rest hq
          obtain ⟨n, rfl⟩ := Int.eq_ofNat_of_zero_le hV0
          rw [Int.toNat_natCast]
          by_cases hn0 : n = 0
          · subst hn0
            have hz : padOf 0 = 0 := rfl
            have e3 : nx q = (some ⟨false, 0, strOfNums []⟩, q.next) := by
              unfold nx
              rw [if_neg hb6, if_neg (by rw [g8]; intro z; exact absurd z.2 (by simp)), if_neg (by rw [g10]; intro z; exact absurd z.1 (by decide)), g9]
            rw [e3] at e2
            have := hih q rest g1 g2 g3 g4 g5 g6 hbr
            rw [g7] at this
            rw [hz]
            simp only [List.take_zero, firstNZ, List.drop_zero, Nat.add_zero, Nat.not_lt_zero, if_false]
            have h3 := answers_of_next (e1.trans e2) this g4 g5
            have z2 : p.taken + 8 + ((0 : Nat) : Int) + ((0 : Nat) : Int) = p.taken + 8 := by omega
            rw [z2]
            exact h3
          · have e3 : nx q = (none, { q with state := 1, need := q.num }) := by
              unfold nx
              rw [if_neg hb6, if_pos ⟨g10, by rw [g8]; omega⟩]
            rw [e3] at e2
            obtain ⟨u, hu⟩ : ∃ u : Ps, u = { q with state := 1, need := q.num } := ⟨_, rfl⟩
            rw [← hu] at e2
            have e4 : feed p b = feed u rest := e1.trans e2
            have hT : Txt u n := ⟨⟨by rw [hu]; exact g1, by rw [hu]; exact g3, by rw [hu]; show q.item < (q.plan.size : Int); rw [g4, g5]; exact hit, by rw [hu]; show 1 ≤ q.num; rw [g8]; omega⟩, by omega, by rw [hu], by rw [hu]; exact g8, by rw [hu]; exact g8, by rw [hu]; exact g9, by rw [hu]; exact hb6⟩
            have u7 : u.taken = p.taken + 8 := by rw [hu]; exact g7
            have u4 : u.item = p.item := by rw [hu]; exact g4
            have u5 : u.plan = p.plan := by rw [hu]; exact g5
            have u6 : u.most = p.most := by rw [hu]; exact g6
            have u1 : u.code = 0 := by rw [hu]; exact g1
            have u2 : u.place = 0 := by rw [hu]; exact g2
            have u3 : u.shut = false := by rw [hu]; exact g3
            cases hz : firstNZ ((rest.drop n).take (padOf n)) with
            | some j =>
              obtain ⟨s, s1, s2, s3, s4, s5, s6, s7⟩ := text_bad hT rest hz
              rw [e4, s1]
              exact ⟨rfl, s2, by rw [s3, u7], by rw [s4, u7], by rw [s5, u4]; show p.item = p.item + ((0 : Nat) : Int); omega, by rw [s6, u5], by rw [s7, u3]⟩
            | none =>
              by_cases hsh : rest.length < n + padOf n
              · obtain ⟨s, s1, sk, s2⟩ := text_short hT rest hz hsh
                simp only
                rw [if_pos hsh, e4, s1]
                have hbl : b.length = 8 + rest.length := by rw [hbe, List.length_append, List.length_cons, hx7]; omega
                exact ⟨rfl, by rw [sk.code, u1], by rw [sk.place, u2], by rw [s2, u7]; show _ = p.taken + (b.length : Int); rw [hbl]; omega, by rw [sk.item, u4]; show p.item = p.item + ((0 : Nat) : Int); omega, by rw [sk.plan, u5], by rw [sk.shut, u3]⟩
              · obtain ⟨s, s1, sk, s2⟩ := text_whole hT rest hz (by omega)
                simp only
                rw [if_neg hsh]
                have := hih s (rest.drop (n + padOf n)) (by rw [sk.code, u1]) (by rw [sk.place, u2]) (by rw [sk.shut, u3]) (by rw [sk.item, u4]) (by rw [sk.plan, u5]) (by rw [sk.most, u6]) (fun x hx => hbr x (List.mem_of_mem_drop hx))
                rw [s2, u7] at this
                exact answers_of_next (e4.trans s1) this (by rw [sk.item, u4]) (by rw [sk.plan, u5])
end Go.Proofs.Ytnilogameaaooaa.Rdr
/- depotref03.Num: the number in eight bytes. -/
set_option linter.unusedVariables false
set_option linter.unusedSimpArgs false
namespace Go.Proofs.Ytnilogameaaooaa.Pure
open Go.RowKit Go.Proofs.Ytnilogameaaooaa.Q Go.Proofs.Ytnilogameaaooaa.Rdr Go.Proofs.Ytnilogameaaooaa.Tail Go.Proofs.YtnilogameaaooaaW.PrintWords Go.Proofs.YtnilogameaaooaaW.PrintLast Go.Proofs.YtnilogameaaooaaW.PrintMore Go.Proofs.Ytnilogameaaooaa.Bytes Go.Proofs.Ytnilogameaaooaa.Evs

theorem val_lt : ∀ (l : List Int), Byts l → val l < 256 ^ l.length
  | [], _ => by simp [val]
  | c :: l, h => by
    have h1 := val_lt l h.cons.2
    have h2 := h.cons.1.2
    simp only [val, List.length_cons, Int.pow_succ]
    omega
theorem byts_text (s : ByteArray) : Byts (numsOf s) := numsOf_range s
theorem byts_drop {l : List Int} (h : Byts l) (n : Nat) : Byts (l.drop n) := fun x hx => h x (List.mem_of_mem_drop hx)
theorem byts_take {l : List Int} (h : Byts l) (n : Nat) : Byts (l.take n) := fun x hx => h x (List.mem_of_mem_take hx)
theorem bt_nums (s : ByteArray) (i : Nat) (h : i < s.size) : (numsOf s)[i]? = some (bt s (i : Int)) := by
  rw [bt_get s i h]
  simp only [numsOf, List.getElem?_map, Array.getElem?_toList]
  rw [Array.getElem?_eq_getElem (show i < s.data.size from h)]
  rfl
theorem pow8 (n : Nat) (h : n ≤ 8) : (256 : Int) ^ n ≤ 18446744073709551616 := by
  have h1 : (256 : Nat) ^ n ≤ 256 ^ 8 := Nat.pow_le_pow_right (by omega) h
  have h2 : (256 : Nat) ^ 8 = 18446744073709551616 := by decide
  have h3 : ((256 : Int) ^ n) = ((256 ^ n : Nat) : Int) := by simp
  rw [h3]
  omega
theorem num_step (text : ByteArray) (a : Nat) (h : a + 8 ≤ text.size) (hs : text.size ≤ 1099511627776) : ∀ j : Nat, j ≤ 8 →
    Ev (fun k => depotref03_Num.l0 k text (a : Int) (val ((((numsOf text).drop a).take 8).drop j)) ((j : Int) - 1)) (val (((numsOf text).drop a).take 8)) := by
  intro j
  induction j with
  | zero =>
    intro _
    apply succ
    simp only [depotref03_Num.l0]
    exact neg (by omega) (now (by rw [List.drop_zero]))
  | succ j ih =>
    intro hj
    have ih := ih (by omega)
    have hl8 : (((numsOf text).drop a).take 8).length = 8 := by rw [List.length_take, List.length_drop, numsOf_len]; omega
    have hB : Byts (((numsOf text).drop a).take 8) := byts_take (byts_drop (byts_text text) a) 8
    have hx : (((numsOf text).drop a).take 8)[j]? = some (bt text ((a + j : Nat) : Int)) := by
      rw [List.getElem?_take, if_pos (by omega), List.getElem?_drop]
      exact bt_nums text (a + j) (by omega)
    obtain ⟨hj2, hx2⟩ := List.getElem?_eq_some_iff.1 hx
    have hd := List.drop_eq_getElem_cons hj2
    rw [hx2] at hd
    have hv : val ((((numsOf text).drop a).take 8).drop j) = bt text ((a + j : Nat) : Int) + 256 * val ((((numsOf text).drop a).take 8).drop (j + 1)) := by rw [hd]; rfl
    have hb1 := val_nonneg _ (byts_drop hB (j + 1))
    have hb2 := val_lt _ (byts_drop hB j)
    have hb3 := hB _ (List.mem_of_getElem? hx)
    have hpow : (256 : Int) ^ (((((numsOf text).drop a).take 8).drop j).length) ≤ 18446744073709551616 := by
      rw [List.length_drop, hl8]
      exact pow8 _ (Nat.sub_le _ _)
    clear hd hx hx2
    generalize val ((((numsOf text).drop a).take 8).drop (j + 1)) = V at hv hb1 ⊢
    generalize hb : bt text ((a + j : Nat) : Int) = c at hv hb3
    rw [hv] at hb2
    have hz := Int.lt_of_lt_of_le hb2 hpow
    have HB2 := Aside0.mk hb
    have HV := Aside0.mk hv
    clear hb hv hpow hb2 hB
    apply succ
    simp only [depotref03_Num.l0]
    have e0 : ((j + 1 : Nat) : Int) - 1 = (j : Int) := by omega
    rw [e0]
    have e2 : wrap64 ((a : Int) + (j : Int)) = ((a + j : Nat) : Int) := by rw [w64 (by omega) (by omega)]; omega
    rw [e2, HB2.out]
    refine pos (by omega) (pos (by omega) (pos (by omega) ?_))
    have u : ∀ z : Int, 0 ≤ z → z < 18446744073709551616 → IntKind.u64.wrap z = z := fun z z0 z1 => by
      have : IntKind.u64.wrap z = z % 18446744073709551616 := rfl
      omega
    rw [u (V * 256) (by omega) (by omega), u c (by omega) (by omega), u _ (by omega) (by omega), w64 (x := (j : Int) - 1) (by omega) (by omega), show V * 256 + c = c + 256 * V by omega, ← HV.out]
    exact ih
theorem num_ev (text : ByteArray) (a : Nat) (h : a + 8 ≤ text.size) (hs : text.size ≤ 1099511627776) : Ev (fun k => depotref03_Num.f k text (a : Int)) (val (((numsOf text).drop a).take 8)) := by
  have := num_step text a h hs 8 (Nat.le_refl _)
  rw [List.drop_of_length_le (by rw [List.length_take]; omega)] at this
  exact this
end Go.Proofs.Ytnilogameaaooaa.Pure
/- depotref03.OneText: one framed text, plain. -/
set_option linter.unusedVariables false
set_option linter.unusedSimpArgs false
namespace Go.Proofs.Ytnilogameaaooaa.Pure
open Go.RowKit Go.Proofs.Ytnilogameaaooaa.Q Go.Proofs.Ytnilogameaaooaa.Rdr Go.Proofs.Ytnilogameaaooaa.Tail Go.Proofs.YtnilogameaaooaaW.PrintWords Go.Proofs.YtnilogameaaooaaW.PrintLast Go.Proofs.YtnilogameaaooaaW.PrintMore Go.Proofs.Ytnilogameaaooaa.Bytes Go.Proofs.Ytnilogameaaooaa.Evs

/-- What OneText answers behind the head: the scan of the padding, from place n + e on. -/
def scanR (text : ByteArray) (a n : Nat) (z : Option Nat) (e : Nat) : ByteArray × Int × Int × Int × Int :=
  match z with
  | some j => (⟨#[]⟩, -1, 7, ((a + 8 + n + e + j : Nat) : Int), ((a + 8 + n + e + j : Nat) : Int))
  | none => if text.size - a - 8 < n + padOf n then (⟨#[]⟩, -1, 0, 0, (text.size : Int)) else (text.extract (a + 8) (a + 8 + n), ((a + 8 + n + padOf n : Nat) : Int), 0, 0, 0)
theorem padI (n : Nat) : Int.tmod (8 - Int.tmod (n : Int) 8) 8 = ((padOf n : Nat) : Int) := by
  have h1 : Int.tmod (n : Int) 8 = (n : Int) % 8 := Int.tmod_eq_emod_of_nonneg (by omega)
  rw [h1, Int.tmod_eq_emod_of_nonneg (by omega)]
  unfold padOf
  omega
theorem padW (n : Nat) (h : n ≤ 9223372036854775807) : Int.tmod (wrap64 (8 - Int.tmod (n : Int) 8)) 8 = ((padOf n : Nat) : Int) := by
  have h1 : Int.tmod (n : Int) 8 = (n : Int) % 8 := Int.tmod_eq_emod_of_nonneg (by omega)
  rw [w64 (by rw [h1]; omega) (by rw [h1]; omega)]
  exact padI n
theorem pad8 (n : Nat) : padOf n < 8 := by unfold padOf; omega
theorem scan_in (text : ByteArray) (a n : Nat) (h : a + 8 ≤ text.size) (hs : text.size ≤ 1099511627776) (hn : n ≤ text.size - a - 8) : ∀ (d e : Nat), e + d = padOf n →
    Ev (fun k => depotref03_OneText.l0 k text (a : Int) (n : Int) ((text.size - a - 8 : Nat) : Int) ((n + e : Nat) : Int)) (scanR text a n (firstNZ ((((numsOf text).drop (a + 8 + n)).drop e).take d)) e) := by
  intro d
  have hp := pad8 n
  have hpw := padW n (by omega)
  induction d with
  | zero =>
    intro e he
    apply succ
    simp only [depotref03_OneText.l0]
    rw [hpw, w64 (x := (n : Int) + ((padOf n : Nat) : Int)) (by omega) (by omega)]
    refine neg (by omega) (neg (by omega) ?_)
    rw [w64 (x := ((text.size - a - 8 : Nat) : Int) - (n : Int)) (by omega) (by omega), w64 (x := (a : Int) + 8) (by omega) (by omega), w64 (x := (a : Int) + 8 + (n : Int)) (by omega) (by omega)]
    rw [List.take_zero]
    simp only [firstNZ, scanR]
    by_cases hsh : text.size - a - 8 < n + padOf n
    · rw [if_pos hsh]
      exact pos (by omega) (now rfl)
    · rw [if_neg hsh]
      refine neg (by omega) (pos (by omega) (pos (by omega) (pos (by omega) (now ?_))))
      rw [w64 (by omega) (by omega)]
      have e1 : ((a : Int) + 8).toNat = a + 8 := by omega
      have e2 : ((a : Int) + 8 + (n : Int)).toNat = a + 8 + n := by omega
      rw [e1, e2]
      congr 3
  | succ d ih =>
    intro e he
    have ih := ih (e + 1) (by omega)
    have e1 : ((n + e : Nat) : Int) + 1 = ((n + (e + 1) : Nat) : Int) := by omega
    apply succ
    simp only [depotref03_OneText.l0]
    rw [hpw, w64 (x := (n : Int) + ((padOf n : Nat) : Int)) (by omega) (by omega)]
    refine pos (by omega) ?_
    rw [w64 (x := (a : Int) + 8) (by omega) (by omega), w64 (x := (a : Int) + 8 + ((n + e : Nat) : Int)) (by omega) (by omega), w64 (x := ((n + e : Nat) : Int) + 1) (by omega) (by omega), e1]
    by_cases hi : n + e < text.size - a - 8
    · refine pos (by omega) (pos (by omega) (pos (by omega) ?_))
      have e2 : (a : Int) + 8 + ((n + e : Nat) : Int) = ((a + 8 + n + e : Nat) : Int) := by omega
      rw [e2]
      have hlt : a + 8 + n + e < text.size := by omega
      have hx := bt_nums text (a + 8 + n + e) hlt
      obtain ⟨hl, hx2⟩ := List.getElem?_eq_some_iff.1 hx
      have hd : ((numsOf text).drop (a + 8 + n)).drop e = bt text ((a + 8 + n + e : Nat) : Int) :: ((numsOf text).drop (a + 8 + n)).drop (e + 1) := by
        rw [List.drop_drop, List.drop_drop, List.drop_eq_getElem_cons hl, hx2]
        rfl
      rw [hd, List.take_succ_cons]
      simp only [firstNZ]
      by_cases hz : bt text ((a + 8 + n + e : Nat) : Int) = 0
      · refine pos hz ?_
        rw [if_pos hz]
        refine same ?_ ih
        cases firstNZ ((((numsOf text).drop (a + 8 + n)).drop (e + 1)).take d) with
        | none => rfl
        | some j =>
          simp only [Option.map_some, scanR]
          have : a + 8 + n + e + (j + 1) = a + 8 + n + (e + 1) + j := by clear hx hx2 hd hz; omega
          rw [this]
      · refine neg hz ?_
        rw [if_neg hz]
        exact now rfl
    · refine neg (by omega) ?_
      refine same ?_ ih
      have hd : ∀ m, e ≤ m → ((numsOf text).drop (a + 8 + n)).drop m = [] := fun m hm => by
        rw [List.drop_drop]
        exact List.drop_of_length_le (by rw [numsOf_len]; omega)
      rw [hd e (Nat.le_refl _), hd (e + 1) (Nat.le_succ _)]
      simp only [List.take_nil, firstNZ, scanR]
/-- The text is longer than what is there. -/
theorem scan_out (text : ByteArray) (a n : Nat) (h : a + 8 ≤ text.size) (hs : text.size ≤ 1099511627776) (hn : text.size - a - 8 < n) (hm : n ≤ 9223372036854775807) : ∀ (d e : Nat), e + d = padOf n →
    Ev (fun k => depotref03_OneText.l0 k text (a : Int) (n : Int) ((text.size - a - 8 : Nat) : Int) ((n + e : Nat) : Int)) ((⟨#[]⟩ : ByteArray), -1, 0, 0, (text.size : Int)) ∨ 9223372036854775807 < n + padOf n := by
  intro d
  have hp := pad8 n
  have hpw := padW n hm
  by_cases hov : 9223372036854775807 < n + padOf n
  · exact fun _ _ => .inr hov
  · induction d with
    | zero =>
      intro e he
      left
      apply succ
      simp only [depotref03_OneText.l0]
      rw [hpw, w64 (x := (n : Int) + ((padOf n : Nat) : Int)) (by omega) (by omega)]
      exact neg (by omega) (pos (by omega) (now rfl))
    | succ d ih =>
      intro e he
      have ih := (ih (e + 1) (by omega)).resolve_right hov
      have e1 : ((n + e : Nat) : Int) + 1 = ((n + (e + 1) : Nat) : Int) := by omega
      left
      apply succ
      simp only [depotref03_OneText.l0]
      rw [hpw, w64 (x := (n : Int) + ((padOf n : Nat) : Int)) (by omega) (by omega)]
      refine pos (by omega) (neg (by omega) ?_)
      rw [w64 (x := ((n + e : Nat) : Int) + 1) (by omega) (by omega), e1]
      exact ih
theorem scan_over (text : ByteArray) (a n : Nat) (hn : text.size - a - 8 < n) (hm : n ≤ 9223372036854775807) (hov : 9223372036854775807 < n + padOf n) :
    Ev (fun k => depotref03_OneText.l0 k text (a : Int) (n : Int) ((text.size - a - 8 : Nat) : Int) (n : Int)) ((⟨#[]⟩ : ByteArray), -1, 0, 0, (text.size : Int)) := by
  have hp := pad8 n
  have hpw := padW n hm
  apply succ
  simp only [depotref03_OneText.l0]
  rw [hpw]
  have hw : wrap64 ((n : Int) + ((padOf n : Nat) : Int)) < 0 := by
    unfold wrap64
    omega
  refine neg (by omega) (pos (by omega) (now rfl))
/-- OneText, whole. -/
def oneR (text : ByteArray) (a : Nat) (m : Int) : ByteArray × Int × Int × Int × Int :=
  if text.size < a + 8 then (⟨#[]⟩, -1, 0, 0, (text.size : Int))
  else if m < val (((numsOf text).drop a).take 8) then (⟨#[]⟩, -1, 6, (a : Int), (a : Int) + 7)
  else scanR text a (val (((numsOf text).drop a).take 8)).toNat (firstNZ (((numsOf text).drop (a + 8 + (val (((numsOf text).drop a).take 8)).toNat)).take (padOf (val (((numsOf text).drop a).take 8)).toNat))) 0
theorem one_ev (text : ByteArray) (a : Nat) (m : Int) (ha : a ≤ text.size) (hs : text.size ≤ 1099511627776) (h0 : 0 ≤ m) (h1 : m ≤ 9223372036854775807) : Ev (fun k => depotref03_OneText.f k text (a : Int) m) (oneR text a m) := by
  unfold oneR
  simp only [depotref03_OneText.f]
  rw [w64 (x := (text.size : Int) - 8) (by omega) (by omega)]
  by_cases h8 : text.size < a + 8
  · rw [if_pos h8]
    exact pos (by omega) (now rfl)
  · rw [if_neg h8]
    refine neg (by omega) (Ev.bind (num_ev text a (by omega) hs) ?_)
    have hV := val_nonneg _ (byts_take (byts_drop (byts_text text) a) 8)
    generalize val (((numsOf text).drop a).take 8) = V at hV ⊢
    obtain ⟨n, rfl⟩ := Int.eq_ofNat_of_zero_le hV
    have hmw : IntKind.u64.wrap m = m := by
      have : IntKind.u64.wrap m = m % 18446744073709551616 := rfl
      omega
    rw [hmw, w64 (x := (a : Int) + 7) (by omega) (by omega)]
    by_cases hl : m < (n : Int)
    · rw [if_pos hl]
      exact pos hl (now rfl)
    · rw [if_neg hl, Int.toNat_natCast]
      refine neg hl ?_
      rw [w64 (x := (n : Int)) (by omega) (by omega), w64 (x := (text.size : Int) - (a : Int)) (by omega) (by omega), w64 (x := (text.size : Int) - (a : Int) - 8) (by omega) (by omega)]
      have e1 : (text.size : Int) - (a : Int) - 8 = ((text.size - a - 8 : Nat) : Int) := by omega
      rw [e1]
      by_cases hn : n ≤ text.size - a - 8
      · have := scan_in text a n (by omega) hs hn (padOf n) 0 (by omega)
        rw [List.drop_zero, Nat.add_zero] at this
        exact this
      · have hz : ((numsOf text).drop (a + 8 + n)).take (padOf n) = [] := by
          rw [List.drop_of_length_le (by rw [numsOf_len]; omega), List.take_nil]
        rw [hz]
        simp only [firstNZ, scanR]
        rw [if_pos (by omega)]
        rcases scan_out text a n (by omega) hs (by omega) (by omega) (padOf n) 0 (by omega) with this | hov
        · rw [Nat.add_zero] at this
          exact this
        · exact scan_over text a n (by omega) (by omega) hov
end Go.Proofs.Ytnilogameaaooaa.Pure
/- depotref03.Read is parse, too. -/
set_option linter.unusedVariables false
set_option linter.unusedSimpArgs false
namespace Go.Proofs.Ytnilogameaaooaa.Pure
open Go.RowKit Go.Proofs.Ytnilogameaaooaa.Q Go.Proofs.Ytnilogameaaooaa.Rdr Go.Proofs.Ytnilogameaaooaa.Tail Go.Proofs.YtnilogameaaooaaW.PrintWords Go.Proofs.YtnilogameaaooaaW.PrintLast Go.Proofs.YtnilogameaaooaaW.PrintMore Go.Proofs.Ytnilogameaaooaa.Bytes Go.Proofs.Ytnilogameaaooaa.Evs

def to78 (x : S55) : S78 := ⟨x.f0, x.f1, x.f2⟩
theorem ext_nums (s : ByteArray) (i n : Nat) : s.extract i (i + n) = strOfNums (((numsOf s).drop i).take n) := by
  apply bs_inj
  rw [bs_extract, bs_strOfNums, List.map_take, List.map_drop, bs_numsOf, Nat.add_sub_cancel_left]
theorem read_ev (text plan : ByteArray) (m : Int) (hs : text.size ≤ 1099511627776) (hp : plan.size ≤ 1099511627776) (h0 : 0 ≤ m) (h1 : m ≤ 9223372036854775807) :
    ∀ (l : List UInt8) (i a : Nat) (its : List S78), (bs plan).drop i = l → i ≤ plan.size → a ≤ text.size → its.length = i → (∀ c ∈ l, c = 105 ∨ c = 116) →
    Ev (fun k => depotref03_Read.l0 k text plan m (a : Int) (i : Int) its 0 0 0) (its ++ (parse m l ((numsOf text).drop a) (a : Int)).1.map to78, (parse m l ((numsOf text).drop a) (a : Int)).2.1, (parse m l ((numsOf text).drop a) (a : Int)).2.2.1, (parse m l ((numsOf text).drop a) (a : Int)).2.2.2) := by
  intro l
  induction l with
  | nil =>
    intro i a its hl hi ha hlen _
    have hie : i = plan.size := by
      have := congrArg List.length hl
      rw [List.length_drop, ← size_bs] at this
      simp at this
      omega
    apply succ
    simp only [depotref03_Read.l0, parse]
    refine neg (by omega) ?_
    by_cases he : a < text.size
    · have hne : (numsOf text).drop a ≠ [] := fun q => by have := congrArg List.length q; rw [List.length_drop, numsOf_len] at this; simp at this; omega
      rw [if_neg hne]
      exact pos (by omega) (now (by simp))
    · have hne : (numsOf text).drop a = [] := List.drop_of_length_le (by rw [numsOf_len]; omega)
      rw [if_pos hne]
      exact neg (by omega) (now (by simp))
  | cons c l ih =>
    intro i a its hl hi ha hlen hlet
    have hlt : i < (bs plan).length := by
      have := congrArg List.length hl
      rw [List.length_drop, List.length_cons] at this
      omega
    have hip : i < plan.size := by rw [size_bs]; exact hlt
    have hcd := List.drop_eq_getElem_cons hlt
    rw [hl] at hcd
    have hce : c = (bs plan)[i] := (List.cons.inj hcd).1
    have hle : (bs plan).drop (i + 1) = l := (List.cons.inj hcd).2.symm
    have HBT := Aside0.mk (show bt plan (i : Int) = (c.toNat : Int) by
      have hg : (bs plan).getD i 0 = c := by rw [List.getD_eq_getElem?_getD, List.getElem?_eq_getElem hlt]; exact hce.symm
      rw [bt_bs, Int.toNat_natCast, hg])
    clear hcd hl hce
    have hbl : ((numsOf text).drop a).length = text.size - a := by rw [List.length_drop, numsOf_len]
    apply succ
    simp only [depotref03_Read.l0, parse]
    refine pos (by omega) (pos (by omega) ?_)
    have hw : wrap64 ((i : Int) + 1) = ((i + 1 : Nat) : Int) := wr i (by omega)
    rw [hw, HBT.out]
    by_cases hc5 : c = 105
    · refine pos (by rw [hc5]; rfl) ?_
      rw [if_pos hc5, w64 (x := (text.size : Int) - 8) (by omega) (by omega)]
      by_cases h8 : text.size < a + 8
      · rw [if_pos (by rw [hbl]; omega)]
        refine pos (by omega) (now ?_)
        have : (a : Int) + (((numsOf text).drop a).length : Int) = (text.size : Int) := by rw [hbl]; omega
        rw [this, List.map_nil, List.append_nil]
      · rw [if_neg (by rw [hbl]; omega)]
        refine neg (by omega) (Ev.bind (num_ev text a (by omega) hs) (pos (by omega) ?_))
        have e1 : wrap64 ((a : Int) + 8) = ((a + 8 : Nat) : Int) := by rw [w64 (by omega) (by omega)]; omega
        rw [e1]
        have hlet2 : ∀ d ∈ l, d = 105 ∨ d = 116 := fun d hd => hlet d (List.mem_cons_of_mem _ hd)
        have := ih (i + 1) (a + 8) (its ++ [⟨true, val (((numsOf text).drop a).take 8), ⟨#[]⟩⟩]) hle hip (Nat.le_of_not_lt h8) (by rw [List.length_append, hlen]; rfl) hlet2
        have e2 : ((a + 8 : Nat) : Int) = (a : Int) + 8 := by omega
        rw [List.drop_drop]
        rw [e2] at this ⊢
        refine same ?_ this
        rw [List.map_cons, List.append_assoc]
        rfl
    · have hc6 : c = 116 := (hlet c List.mem_cons_self).resolve_left hc5
      refine neg (fun q => hc5 ((byte_eq_iff c 105).1 q)) (Ev.bind (one_ev text a m ha hs h0 h1) ?_)
      rw [if_neg hc5]
      unfold oneR
      by_cases h8 : text.size < a + 8
      · rw [if_pos h8, if_pos (by rw [hbl]; omega)]
        refine pos (show (-1 : Int) < 0 by decide) (now ?_)
        have : (a : Int) + (((numsOf text).drop a).length : Int) = (text.size : Int) := by rw [hbl]; omega
        rw [this, List.map_nil, List.append_nil]
      · rw [if_neg h8, if_neg (show ¬ ((numsOf text).drop a).length < 8 by rw [hbl]; omega)]
        have hV := val_nonneg _ (byts_take (byts_drop (byts_text text) a) 8)
        generalize val (((numsOf text).drop a).take 8) = V at hV ⊢
        obtain ⟨n, rfl⟩ := Int.eq_ofNat_of_zero_le hV
        by_cases hlong : m < (n : Int)
        · rw [if_pos hlong, if_pos hlong]
          exact pos (show (-1 : Int) < 0 by decide) (now (by rw [List.map_nil, List.append_nil]))
        · rw [if_neg hlong, if_neg hlong, Int.toNat_natCast]
          have d8 : List.drop 8 (List.drop a (numsOf text)) = List.drop (a + 8) (numsOf text) := by rw [List.drop_drop]
          have dn : List.drop n (List.drop (a + 8) (numsOf text)) = List.drop (a + 8 + n) (numsOf text) := by rw [List.drop_drop]
          have dp : List.drop (n + padOf n) (List.drop (a + 8) (numsOf text)) = List.drop (a + 8 + n + padOf n) (numsOf text) := by rw [List.drop_drop, Nat.add_assoc (a + 8)]
          have dl : (List.drop (a + 8) (numsOf text)).length = text.size - a - 8 := by rw [List.length_drop, numsOf_len]; omega
          rw [d8, dn, dp, dl, hbl]
          have hlet2 : ∀ d ∈ l, d = 105 ∨ d = 116 := fun d hd => hlet d (List.mem_cons_of_mem _ hd)
          cases hz : firstNZ (List.take (padOf n) (List.drop (a + 8 + n) (numsOf text))) with
          | some j =>
            simp only [scanR]
            refine pos (show (-1 : Int) < 0 by decide) (now ?_)
            have : ((a + 8 + n + 0 + j : Nat) : Int) = (a : Int) + 8 + n + j := by omega
            rw [List.map_nil, List.append_nil, this]
          | none =>
            by_cases hsh : text.size - a - 8 < n + padOf n
            · have hZ : scanR text a n none 0 = (⟨#[]⟩, -1, 0, 0, (text.size : Int)) := by simp only [scanR]; exact if_pos hsh
              rw [hZ]
              simp only [if_pos hsh]
              refine pos (show (-1 : Int) < 0 by decide) (now ?_)
              have : (a : Int) + ((text.size - a : Nat) : Int) = (text.size : Int) := by omega
              rw [List.map_nil, List.append_nil, this]
            · have hZ : scanR text a n none 0 = (text.extract (a + 8) (a + 8 + n), ((a + 8 + n + padOf n : Nat) : Int), 0, 0, 0) := by simp only [scanR]; exact if_neg hsh
              rw [hZ]
              simp only [if_neg hsh]
              refine neg (by omega) (pos (by omega) ?_)
              have ex := ext_nums text (a + 8) n
              have hb : a + 8 + n + padOf n ≤ text.size := by omega
              have := ih (i + 1) (a + 8 + n + padOf n) (its ++ [⟨false, 0, text.extract (a + 8) (a + 8 + n)⟩]) hle hip hb (by rw [List.length_append, hlen]; rfl) hlet2
              have e2 : ((a + 8 + n + padOf n : Nat) : Int) = (a : Int) + 8 + n + (padOf n : Int) := by omega
              rw [← ex]
              rw [e2] at this ⊢
              refine same ?_ this
              rw [List.map_cons, List.append_assoc]
              rfl
end Go.Proofs.Ytnilogameaaooaa.Pure
/- What Split and the document's Read answer for a whole text: one plain reading. -/
set_option linter.unusedVariables false
set_option linter.unusedSimpArgs false
namespace Go.Proofs.Ytnilogameaaooaa.Pure
open Go.RowKit Go.Proofs.Ytnilogameaaooaa.Q Go.Proofs.Ytnilogameaaooaa.Rdr Go.Proofs.Ytnilogameaaooaa.Tail Go.Proofs.YtnilogameaaooaaW.PrintWords Go.Proofs.YtnilogameaaooaaW.PrintLast Go.Proofs.YtnilogameaaooaaW.PrintMore Go.Proofs.Ytnilogameaaooaa.Bytes Go.Proofs.Ytnilogameaaooaa.Evs

/-- The reading of a whole text: items, code, place, bytes taken. -/
def got (text plan : ByteArray) (most : Int) : List S55 × Int × Int × Int :=
  match bad1 (bs plan) 0 with
  | some i => ([], 30, (i : Int), 0)
  | none => parse (m0 most) (bs plan) (numsOf text) 0
/-- The fault when the bytes end there. -/
def shutR (g : List S55 × Int × Int × Int) (n : Nat) : Int × Int :=
  if g.2.1 = 0 ∧ (g.1.length : Int) < (n : Int) then (4, g.2.2.2) else (g.2.1, g.2.2.1)
theorem parse_place : ∀ (m : Int) (l : List UInt8) (b : List Int) (t : Int), (parse m l b t).2.1 = 0 → (parse m l b t).2.2.1 = 0
  | m, [], b, t => by
    simp only [parse]
    split
    · exact fun _ => rfl
    · intro h; exact absurd (show _ = (0 : Int) from h) (by simp)
  | m, c :: l, b, t => by
    simp only [parse]
    split
    · exact fun _ => rfl
    · split
      · exact parse_place m l _ _
      · split
        · intro h; exact absurd (show _ = (0 : Int) from h) (by simp)
        · split
          · intro h; exact absurd (show _ = (0 : Int) from h) (by simp)
          · split
            · exact fun _ => rfl
            · exact parse_place m l _ _
theorem parse_len : ∀ (m : Int) (l : List UInt8) (b : List Int) (t : Int), (parse m l b t).1.length ≤ l.length
  | m, [], b, t => by
    simp only [parse]
    split <;> exact Nat.le_refl _
  | m, c :: l, b, t => by
    simp only [parse]
    split
    · exact Nat.zero_le _
    · split
      · exact Nat.succ_le_succ (parse_len m l _ _)
      · split
        · exact Nat.zero_le _
        · split
          · exact Nat.zero_le _
          · split
            · exact Nat.zero_le _
            · exact Nat.succ_le_succ (parse_len m l _ _)
theorem m0_range (most : Int) (h : most ≤ 9223372036854775807) : 0 ≤ m0 most ∧ m0 most ≤ 9223372036854775807 := by
  unfold m0; split <;> omega
theorem got_none {text plan : ByteArray} {most : Int} (h : bad1 (bs plan) 0 = none) : got text plan most = parse (m0 most) (bs plan) (numsOf text) 0 := by unfold got; rw [h]
theorem got_some {text plan : ByteArray} {most : Int} {i : Nat} (h : bad1 (bs plan) 0 = some i) : got text plan most = ([], 30, (i : Int), 0) := by unfold got; rw [h]
theorem got_len (text plan : ByteArray) (most : Int) : (got text plan most).1.length ≤ plan.size := by
  unfold got
  split
  · exact Nat.zero_le _
  · have := parse_len (m0 most) (bs plan) (numsOf text) 0
    rw [← size_bs] at this
    exact this
/-- feed of a new reader is the reading. -/
theorem feed_got (text plan : ByteArray) (most : Int) (h : most ≤ 9223372036854775807) : Answers (newM plan (m0 most)) (feed (newM plan (m0 most)) (numsOf text)) (got text plan most) := by
  have hm := m0_range most h
  cases hb : bad1 (bs plan) 0 with
  | some i =>
    rw [newM_some hb, got_some hb, feed_stop (by rfl)]
    exact ⟨rfl, rfl, rfl, rfl, rfl, rfl, rfl⟩
  | none =>
    rw [newM_none hb, got_none hb]
    exact feed_parse (bs plan) (startM plan (m0 most)) (numsOf text) ⟨rfl, rfl, rfl, rfl, rfl, rfl, rfl, rfl⟩ (Int.le_refl _) rfl (by show (0 : Int) ≤ (plan.size : Int); omega) (bad1_none _ _ hb) hm.1 (numsOf_range text)
theorem newM_item (plan : ByteArray) (m : Int) : (newM plan m).item = 0 ∧ (newM plan m).plan = plan := by
  unfold newM
  split <;> exact ⟨rfl, rfl⟩
theorem split_got (text plan : ByteArray) (most : Int) (h1 : text.size ≤ 1099511627776) (h2 : plan.size ≤ 1099511627776) (h : most ≤ 9223372036854775807) :
    wire_Split.f text plan most = some (if (shutR (got text plan most) plan.size).1 = 0 then ((got text plan most).1, 0, 0) else ([], (shutR (got text plan most) plan.size).1, (shutR (got text plan most) plan.size).2)) := by
  have hA := feed_got text plan most h
  obtain ⟨n1, n2⟩ := newM_item plan (m0 most)
  unfold wire_Split.f
  rw [if_pos ⟨h1, h2, h⟩]
  unfold split
  generalize feed (newM plan (m0 most)) (numsOf text) = F at hA ⊢
  obtain ⟨a1, a2, a3, a4, a5, a6, a7⟩ := hA
  rw [n1] at a5
  rw [n2] at a6
  have hs : (close F.1).code = (shutR (got text plan most) plan.size).1 ∧ (close F.1).place = (shutR (got text plan most) plan.size).2 := by
    unfold close shutR Ps.stopped
    rw [a7, a6, a5, a2, a4]
    by_cases hc : (got text plan most).2.1 = 0
    · rw [if_neg (by rw [hc]; simp)]
      by_cases hl : ((got text plan most).1.length : Int) < (plan.size : Int)
      · rw [if_pos (by omega), if_pos ⟨hc, hl⟩]
        exact ⟨rfl, rfl⟩
      · rw [if_neg (by omega), if_neg (fun q => hl q.2)]
        exact ⟨rfl, a3⟩
    · rw [if_pos (by simp [hc]), if_neg (fun q => hc q.1)]
      exact ⟨rfl, a3⟩
  rw [a1]
  rw [hs.1, hs.2]
  by_cases hc : (shutR (got text plan most) plan.size).1 = 0
  · rw [if_pos hc, if_pos hc]
  · rw [if_neg hc, if_neg hc]
theorem planned_ev (plan : ByteArray) (hp : plan.size ≤ 1099511627776) : ∀ (l : List UInt8) (i : Nat), (bs plan).drop i = l → i ≤ plan.size →
    Ev (fun k => depotref03_Planned.l0 k plan (i : Int)) (match bad1 l i with | some j => (j : Int) | none => -1) := by
  intro l
  induction l with
  | nil =>
    intro i hl hi
    have hie : i = plan.size := by
      have := congrArg List.length hl
      rw [List.length_drop, ← size_bs] at this
      simp at this
      omega
    apply succ
    simp only [depotref03_Planned.l0, bad1]
    exact neg (by omega) (now rfl)
  | cons c l ih =>
    intro i hl hi
    have hlt : i < (bs plan).length := by
      have := congrArg List.length hl
      rw [List.length_drop, List.length_cons] at this
      omega
    have hip : i < plan.size := by rw [size_bs]; exact hlt
    have hcd := List.drop_eq_getElem_cons hlt
    rw [hl] at hcd
    have hce : c = (bs plan)[i] := (List.cons.inj hcd).1
    have hle : (bs plan).drop (i + 1) = l := (List.cons.inj hcd).2.symm
    have HBT := Aside0.mk (show bt plan (i : Int) = (c.toNat : Int) by
      have hg : (bs plan).getD i 0 = c := by rw [List.getD_eq_getElem?_getD, List.getElem?_eq_getElem hlt]; exact hce.symm
      rw [bt_bs, Int.toNat_natCast, hg])
    have := ih (i + 1) hle hip
    clear hcd hl hce
    apply succ
    simp only [depotref03_Planned.l0, bad1]
    have hw : wrap64 ((i : Int) + 1) = ((i + 1 : Nat) : Int) := wr i (by omega)
    refine pos (by omega) (pos (by omega) ?_)
    rw [hw, HBT.out]
    by_cases h5 : c = 105
    · rw [if_pos (.inl h5)]
      exact pos (by rw [h5]; rfl) this
    · refine neg (fun q => h5 ((byte_eq_iff c 105).1 q)) ?_
      by_cases h6 : c = 116
      · rw [if_pos (.inr h6)]
        exact pos (by rw [h6]; rfl) this
      · rw [if_neg (fun q => q.elim h5 h6)]
        exact neg (fun q => h6 ((byte_eq_iff c 116).1 q)) (now rfl)
theorem readj_ev (text plan : ByteArray) (most m : Int) (hm : m0 most = m) (h1 : text.size ≤ 1099511627776) (h2 : plan.size ≤ 1099511627776) (h3 : 0 ≤ m) (h4 : m ≤ 9223372036854775807) :
    Ev (fun k => depotref03_Read.j0 k text plan m) ((got text plan most).1.map to78, (got text plan most).2.1, (got text plan most).2.2.1, (got text plan most).2.2.2) := by
  apply succ
  simp only [depotref03_Read.j0]
  have hP := planned_ev plan h2 (bs plan) 0 rfl (Nat.zero_le _)
  cases hb : bad1 (bs plan) 0 with
  | some i =>
    rw [hb] at hP
    refine Ev.bind hP (pos (by simp only; omega) (now ?_))
    rw [got_some hb]
    rfl
  | none =>
    rw [hb] at hP
    refine Ev.bind hP (neg (by simp) ?_)
    rw [got_none hb, hm]
    have := read_ev text plan m h1 h2 h3 h4 (bs plan) 0 0 [] rfl (Nat.zero_le _) (Nat.zero_le _) rfl (bad1_none _ _ hb)
    rw [List.drop_zero, List.nil_append] at this
    exact this
theorem read_got (text plan : ByteArray) (most : Int) (h1 : text.size ≤ 1099511627776) (h2 : plan.size ≤ 1099511627776) (h : most ≤ 9223372036854775807) :
    Ev (fun k => depotref03_Read.f k text plan most) ((got text plan most).1.map to78, (got text plan most).2.1, (got text plan most).2.2.1, (got text plan most).2.2.2) := by
  simp only [depotref03_Read.f]
  by_cases hn : most < 0
  · exact pos hn (readj_ev text plan most 0 (by unfold m0; rw [if_pos hn]) h1 h2 (by omega) (by omega))
  · exact neg hn (readj_ev text plan most most (by unfold m0; rw [if_neg hn]) h1 h2 (by omega) h)
theorem closed_got (text plan : ByteArray) (most : Int) (h1 : text.size ≤ 1099511627776) (h2 : plan.size ≤ 1099511627776) (h : most ≤ 9223372036854775807) :
    Ev (fun k => depotref03_Closed.f k text plan most) (shutR (got text plan most) plan.size) := by
  simp only [depotref03_Closed.f]
  refine Ev.bind (read_got text plan most h1 h2 h) ?_
  unfold shutR
  rw [List.length_map]
  by_cases hc : (got text plan most).2.1 = 0
  · refine pos hc ?_
    by_cases hl : ((got text plan most).1.length : Int) < (plan.size : Int)
    · exact pos hl (now (by rw [if_pos ⟨hc, hl⟩]))
    · exact neg hl (now (by rw [if_neg (fun q => hl q.2)]))
  · exact neg hc (now (by rw [if_neg (fun q => hc q.1)]))
theorem same_in (xs : List S55) (ys : List S78) (hs : ys.length + xs.length ≤ 1099511627776) : ∀ (d i : Nat), i + d = xs.length →
    Ev (fun k => depotlaw03_same.l0 k (ys ++ xs.map to78) (ys.length : Int) xs (xs.length : Int) (i : Int)) true := by
  intro d
  induction d with
  | zero =>
    intro i hi
    apply succ
    simp only [depotlaw03_same.l0]
    exact neg (by omega) (now rfl)
  | succ d ih =>
    intro i hi
    have ih := ih (i + 1) (by omega)
    have hw : wrap64 ((i : Int) + 1) = ((i + 1 : Nat) : Int) := wr i (by omega)
    have hv : wrap64 ((ys.length : Int) + (i : Int)) = ((ys.length + i : Nat) : Int) := by rw [w64 (by omega) (by omega)]; omega
    have hlt : i < xs.length := by omega
    have e1 : rd_T55 xs (i : Int) = xs[i] := by
      unfold rd_T55
      rw [Int.toNat_natCast, List.getD_eq_getElem?_getD, List.getElem?_eq_getElem hlt]
      rfl
    have e2 : rd_T78 (ys ++ xs.map to78) ((ys.length + i : Nat) : Int) = to78 xs[i] := by
      unfold rd_T78
      rw [Int.toNat_natCast, List.getD_eq_getElem?_getD, List.getElem?_append_right (Nat.le_add_right _ _), Nat.add_sub_cancel_left, List.getElem?_map, List.getElem?_eq_getElem hlt]
      rfl
    apply succ
    simp only [depotlaw03_same.l0]
    rw [hw, hv, e1, e2]
    refine pos (by omega) (pos (by omega) (pos (by omega) (pos (by omega) (pos (by rw [List.length_append, List.length_map]; omega) (neg (by simp [to78]) (pos rfl (pos rfl ih)))))))
theorem same_ev (xs : List S55) (ys : List S78) (hs : ys.length + xs.length ≤ 1099511627776) :
    Ev (fun k => depotlaw03_same.f k xs (ys ++ xs.map to78) (ys.length : Int)) true := by
  simp only [depotlaw03_same.f]
  refine pos ?_ (same_in xs ys hs xs.length 0 (by omega))
  rw [List.length_append, List.length_map, w64 (by omega) (by omega)]
  omega
theorem nums_app (a b : ByteArray) : numsOf (a ++ b) = numsOf a ++ numsOf b := by
  have h : (a ++ b).data.toList = a.data.toList ++ b.data.toList := bs_append a b
  unfold numsOf
  rw [← List.map_append, h]
theorem awake_ev : Ev (fun k => depotlaw03_awake.f k) true := by
  simp only [depotlaw03_awake.f]
  have f1 : frame8 (⟨#[97]⟩ : ByteArray) = [1, 0, 0, 0, 0, 0, 0, 0, 97, 0, 0, 0, 0, 0, 0, 0] := by decide
  have f2 : le8 258 = [2, 1, 0, 0, 0, 0, 0, 0] := by decide
  have f3 : le8 7 = [7, 0, 0, 0, 0, 0, 0, 0] := by decide
  have hT : wire_Text.f (⟨#[97]⟩ : ByteArray) = some (strOfNums [1, 0, 0, 0, 0, 0, 0, 0, 97, 0, 0, 0, 0, 0, 0, 0]) := by rw [← f1]; exact if_pos (by decide)
  have hI : wire_Int.f 258 = some (strOfNums [2, 1, 0, 0, 0, 0, 0, 0]) := by rw [← f2]; rfl
  have hJ : wire_Int.f 7 = some (strOfNums [7, 0, 0, 0, 0, 0, 0, 0]) := by rw [← f3]; rfl
  refine call hT (pos (by rw [toList_bs, bs_strOfNums]; decide) (call hI ?_))
  rw [toList_bs, bs_strOfNums]
  refine succ ?_
  simp only [depotlaw03_awake.j0]
  refine neg (by decide) (call hJ (call hT (pos (by decide) ?_)))
  have hS := split_got (strOfNums [7, 0, 0, 0, 0, 0, 0, 0] ++ strOfNums [1, 0, 0, 0, 0, 0, 0, 0, 97, 0, 0, 0, 0, 0, 0, 0]) (⟨#[105, 116]⟩ : ByteArray) 1 (by decide) (by decide) (by decide)
  have hG : got (strOfNums [7, 0, 0, 0, 0, 0, 0, 0] ++ strOfNums [1, 0, 0, 0, 0, 0, 0, 0, 97, 0, 0, 0, 0, 0, 0, 0]) (⟨#[105, 116]⟩ : ByteArray) 1 = ([⟨true, 7, ⟨#[]⟩⟩, ⟨false, 0, ⟨#[97]⟩⟩], 0, 0, 24) := by
    rw [got_none (by decide), nums_app, numsOf_str _ (by decide), numsOf_str _ (by decide)]
    rfl
  rw [hG] at hS
  have hS : wire_Split.f (strOfNums [7, 0, 0, 0, 0, 0, 0, 0] ++ strOfNums [1, 0, 0, 0, 0, 0, 0, 0, 97, 0, 0, 0, 0, 0, 0, 0]) (⟨#[105, 116]⟩ : ByteArray) 1 = some ([⟨true, 7, ⟨#[]⟩⟩, ⟨false, 0, ⟨#[97]⟩⟩], 0, 0) := hS.trans rfl
  refine call hS (pos rfl (pos rfl (pos (by decide) (pos rfl (pos rfl (pos (by decide) (now (by rw [show ((rd_T55 [⟨true, 7, ⟨#[]⟩⟩, ⟨false, 0, ⟨#[97]⟩⟩] 1).f2) = (⟨#[97]⟩ : ByteArray) from rfl, toList_bs]; decide))))))))
end Go.Proofs.Ytnilogameaaooaa.Pure
/- depotlaw03.WireSplits answers true for every text, plan and longest text, text and plan in 2^20 bytes. -/
set_option linter.unusedVariables false
set_option linter.unusedSimpArgs false
namespace Go.Proofs.Ytnilogameaaooaa.Pure
open Go.RowKit Go.Proofs.Ytnilogameaaooaa.Q Go.Proofs.Ytnilogameaaooaa.Rdr Go.Proofs.Ytnilogameaaooaa.Tail Go.Proofs.YtnilogameaaooaaW.PrintWords Go.Proofs.YtnilogameaaooaaW.PrintLast Go.Proofs.YtnilogameaaooaaW.PrintMore Go.Proofs.Ytnilogameaaooaa.Bytes Go.Proofs.Ytnilogameaaooaa.Evs

theorem shut_zero {g : List S55 × Int × Int × Int} {n : Nat} (h : (shutR g n).1 = 0) : g.2.1 = 0 ∧ ¬ (g.1.length : Int) < (n : Int) := by
  unfold shutR at h
  split at h
  · exact absurd (show (4 : Int) = 0 from h) (by decide)
  · rename_i hc
    exact ⟨h, fun q => hc ⟨h, q⟩⟩
theorem got_place {text plan : ByteArray} {most : Int} (h : (got text plan most).2.1 = 0) : (got text plan most).2.2.1 = 0 := by
  cases hb : bad1 (bs plan) 0 with
  | some i => rw [got_some hb] at h; exact absurd (show (30 : Int) = 0 from h) (by decide)
  | none => rw [got_none hb] at h ⊢; exact parse_place _ _ _ _ h
theorem shut_place {text plan : ByteArray} {most : Int} (h : (shutR (got text plan most) plan.size).1 = 0) : (shutR (got text plan most) plan.size).2 = 0 := by
  obtain ⟨h1, h2⟩ := shut_zero h
  unfold shutR
  rw [if_neg (fun q => h2 q.2)]
  exact got_place h1
theorem WireSplits : ∀ (x0 : ByteArray) (x1 : ByteArray) (x2 : Int), x0.size ≤ 140737488351232 → x1.size ≤ 140737488351232 → (Lit.int .i64 x2).wf = true → ((x0).size + 1) + ((x1).size + 1) + 1 ≤ 1048576 → ∃ k, depotlaw03_WireSplits.f k (x0) (x1) (x2) = some true := by
  intro text plan most h1 h2 h3 h4
  have hm := (bounds_i64 h3).2
  apply Ev.rounds
  simp only [depotlaw03_WireSplits.f]
  refine Ev.bind awake_ev (pos rfl (call (split_got text plan most (by omega) (by omega) (by omega)) (Ev.bind (read_got text plan most (by omega) (by omega) (by omega)) (Ev.bind (closed_got text plan most (by omega) (by omega) (by omega)) ?_))))
  by_cases hc : (shutR (got text plan most) plan.size).1 = 0
  · rw [if_pos hc]
    have hp := shut_place hc
    refine pos hc.symm (succ ?_)
    simp only [depotlaw03_WireSplits.j0]
    rw [hp, hc]
    refine neg (by decide) (pos rfl (Ev.bind ?_ (now rfl)))
    have := same_ev (got text plan most).1 [] (by have := got_len text plan most; simp only [List.length_nil]; omega)
    exact this
  · rw [if_neg hc]
    refine pos rfl (succ ?_)
    simp only [depotlaw03_WireSplits.j0]
    exact neg (by simp) (neg hc (now (by simp)))
end Go.Proofs.Ytnilogameaaooaa.Pure
/- What came in, opened by its kind: a reading of a value ys data gives the Lean value of the print's kinds, with its sizes. For rows over slices and structs. -/
set_option linter.unusedVariables false
set_option linter.unusedSimpArgs false
namespace Go.Proofs.Ytnilogameaaooaa.Opens
open Go.RowKit Go.Deep Go.Proofs.YtnilogameaaooaaW.PrintWords

section
variable {α β : Type}
/-- A reading at type t gives a value of kind d: its cells (K), its weights (each no more than one of the datum's, or 0), its bulk, and what is good about its numbers. -/
structure Opens (P : Program) (t : TypeId) (d : Kd α) (Wt : α → List Nat) (Bk : α → Nat) (Gd : α → Prop) : Prop where
  sz : P.cellsOf t = d.sz
  out : ∀ {H : Type} {enc : TypeId × Value → H} {w : World} {base : Nat} {spare : Nat → Bool} {held : Bool} {fuel : Nat} {cs : List Value} {x : DataW H × List MemPlace},
    DataW.trod enc P w base spare held fuel t cs = some x → ∃ a, d.K w a cs ∧ (∀ n ∈ Wt a, n = 0 ∨ ∃ m ∈ x.1.weights P t, n ≤ m) ∧ Bk a ≤ Rows.uptoBulk x.1 ∧ Gd a

variable {P : Program} {t : TypeId}
theorem opens_string (ht : P.underlying t = some .string) (hs : P.cellsOf t = 1) : Opens P t Kd.string (fun s => [s.size]) (fun s => s.size + 1) (fun s => s.size ≤ maxLen) := by
  refine ⟨hs, fun {H enc w base spare held fuel cs x} h => ?_⟩
  obtain ⟨s, rfl, rfl, hw⟩ := DataW.trod_string ht h
  refine ⟨s, rfl, ?_, ?_, hw⟩
  · intro n hn
    rw [List.mem_singleton] at hn
    refine .inr ⟨s.data.toList.length, by rw [DataW.weights]; exact List.mem_singleton.2 rfl, ?_⟩
    rw [hn, Array.length_toList]
    exact Nat.le_refl _
  · rw [Rows.uptoBulk, Array.length_toList]
    exact Nat.le_refl _
theorem opens_bool (ht : P.underlying t = some .bool) (hs : P.cellsOf t = 1) : Opens P t Kd.bool (fun _ => []) (fun _ => 1) (fun _ => True) := by
  refine ⟨hs, fun {H enc w base spare held fuel cs x} h => ?_⟩
  obtain ⟨b, rfl, rfl⟩ := DataW.trod_bool ht h
  exact ⟨b, rfl, fun _ h => absurd h (by simp), by rw [Rows.uptoBulk] <;> simp, trivial⟩
theorem opens_int {k : IntKind} (ht : P.underlying t = some (.int k)) (hs : P.cellsOf t = 1) : Opens P t (Kd.int k) (fun _ => []) (fun _ => 1) (fun n => (Lit.int k n).wf = true) := by
  refine ⟨hs, fun {H enc w base spare held fuel cs x} h => ?_⟩
  obtain ⟨n, rfl, rfl, hw⟩ := DataW.trod_int ht h
  exact ⟨n, rfl, fun _ h => absurd h (by simp), by rw [Rows.uptoBulk] <;> simp, hw⟩

theorem list_of {Q : Nat → α → Prop} : ∀ (n : Nat), (∀ i, i < n → ∃ a, Q i a) → ∃ ys : List α, ys.length = n ∧ ∀ i a, ys[i]? = some a → Q i a
  | 0, _ => ⟨[], rfl, fun i a h => by simp at h⟩
  | n + 1, h => by
    obtain ⟨ys, hl, hq⟩ := list_of n (fun i hi => h i (by omega))
    obtain ⟨a, ha⟩ := h n (by omega)
    refine ⟨ys ++ [a], by simp [hl], fun i b hb => ?_⟩
    rcases Nat.lt_or_ge i n with hi | hi
    · rw [List.getElem?_append_left (by omega)] at hb
      exact hq i b hb
    · have : i < (ys ++ [a]).length := (List.getElem?_eq_some_iff.1 hb).1
      simp [hl] at this
      have e : i = n := by omega
      subst e
      rw [List.getElem?_append_right (by omega), hl, Nat.sub_self] at hb
      simp at hb
      subst hb
      exact ha
theorem sum_le_range (ys : List α) (Bk : α → Nat) (b : Nat → Nat) (h : ∀ i a, ys[i]? = some a → Bk a ≤ b i) : (ys.map Bk).sum ≤ ((List.range ys.length).map b).sum := by
  induction ys generalizing b with
  | nil => simp
  | cons a ys ih =>
    have h0 := h 0 a rfl
    have h1 := ih (fun i => b (i + 1)) (fun i a ha => h (i + 1) a (by simpa using ha))
    rw [List.length_cons, List.range_succ_eq_map, List.map_cons, List.sum_cons, List.map_cons, List.sum_cons, List.map_map]
    have e : (List.map (b ∘ Nat.succ) (List.range ys.length)) = List.map (fun i => b (i + 1)) (List.range ys.length) := rfl
    rw [e]
    omega
theorem bulkAll_sum {H : Type} (l : List (DataW H)) : Rows.uptoBulkAll l = (l.map Rows.uptoBulk).sum := by
  induction l with
  | nil => rfl
  | cons d l ih => rw [Rows.uptoBulkAll, ih, List.map_cons, List.sum_cons]
theorem weightsAll_mem {H : Type} {e : TypeId} : ∀ (l : List (DataW H)) (d : DataW H), d ∈ l → ∀ m ∈ d.weights P e, m ∈ DataW.weightsAll P e l
  | [], d, h => absurd h (by simp)
  | d' :: l, d, h => by
    intro m hm
    rw [DataW.weightsAll, List.mem_append]
    rcases List.mem_cons.1 h with rfl | h
    · exact .inl hm
    · exact .inr (weightsAll_mem l d h m hm)

theorem opens_slice {e : TypeId} {d : Kd α} {Wt : α → List Nat} {Bk : α → Nat} {Gd : α → Prop} (ht : P.underlying t = some (.slice e)) (hs : P.cellsOf t = 1) (he : Opens P e d Wt Bk Gd) :
    Opens P t (Kd.slice e d) (fun xs => (xs.length * P.bytesOf e) :: xs.flatMap Wt) (fun xs => (xs.map Bk).sum + 1) (fun xs => xs.length ≤ maxLen ∧ ∀ x ∈ xs, Gd x) := by
  refine ⟨hs, fun {H enc w base spare held fuel cs x} h => ?_⟩
  rcases open_slice ht h with ⟨rfl, rfl⟩ | ⟨a, len, cap, m, n, D, Pl, rfl, hb, hl, hm, hmm, rfl, hx⟩
  · exact ⟨[], ⟨none, 0, rfl, Nat.le_refl _, Kd.C_nil d w⟩, fun n hn => .inl (by simpa using hn), by rw [Rows.uptoBulk]; simp, by simp, by simp⟩
  · have hlm : len ≤ m := by rw [hmm]; split <;> omega
    have each : ∀ i, i < len → ∃ b : α, (∃ cs', w.cells? base (a.add (i * P.cellsOf e)) (P.cellsOf e) = some cs' ∧ d.K w b cs') ∧ (∀ q ∈ Wt b, q = 0 ∨ ∃ r ∈ (D i).weights P e, q ≤ r) ∧ Bk b ≤ Rows.uptoBulk (D i) ∧ Gd b := by
      intro i hi
      obtain ⟨cs', h1, h2⟩ := hx i (by omega)
      obtain ⟨b, hK, hw, hk, hg⟩ := he.out h2
      exact ⟨b, ⟨cs', h1, hK⟩, hw, hk, hg⟩
    obtain ⟨ys, hal, has⟩ := list_of len each
    subst hal
    refine ⟨ys, ⟨some a, cap, rfl, hl, rfl, by unfold maxLen at hm; omega, fun hp => ⟨a, rfl, fun j p hj => ?_⟩⟩, ?_, ?_, by omega, ?_⟩
    · obtain ⟨⟨cs', h1, hK⟩, _⟩ := has j p hj
      refine ⟨cs', d.K_len hK, hK, fun i u hu => ?_⟩
      have hc := World.cells?_some h1
      rw [he.sz] at hc
      obtain ⟨hc0, hc1, hc2⟩ := hc
      have hi : i < d.sz := by rw [← d.K_len hK]; exact (List.getElem?_eq_some_iff.1 hu).1
      have := hc2 i (by omega)
      rw [hu] at this
      rw [Go.Deep.add_add] at this
      exact this
    · intro q hq
      rw [List.mem_cons, List.mem_flatMap] at hq
      have hwt : (DataW.slice ((List.range ys.length).map D) ((List.range (m - ys.length)).map fun j => D (ys.length + j)) : DataW H).weights P t = (((List.range ys.length).map D).length + ((List.range (m - ys.length)).map fun j => D (ys.length + j)).length) * P.bytesOf e :: (DataW.weightsAll P e ((List.range ys.length).map D) ++ DataW.weightsAll P e ((List.range (m - ys.length)).map fun j => D (ys.length + j))) := by
        rw [DataW.weights, ht]
      show q = 0 ∨ ∃ r ∈ (DataW.slice ((List.range ys.length).map D) ((List.range (m - ys.length)).map fun j => D (ys.length + j)) : DataW H).weights P t, q ≤ r
      rw [hwt]
      rcases hq with rfl | ⟨b, hbm, hq⟩
      · refine .inr ⟨_, List.mem_cons_self, ?_⟩
        refine Nat.mul_le_mul_right _ ?_
        simp
      · obtain ⟨i, hi⟩ := List.getElem?_of_mem hbm
        have hil : i < ys.length := (List.getElem?_eq_some_iff.1 hi).1
        obtain ⟨_, hw, _⟩ := has i b hi
        rcases hw q hq with h0 | ⟨r, hr, hqr⟩
        · exact .inl h0
        · exact .inr ⟨r, List.mem_cons_of_mem _ (List.mem_append_left _ (weightsAll_mem _ (D i) (List.mem_map.2 ⟨i, List.mem_range.2 hil, rfl⟩) r hr)), hqr⟩
    · show _ ≤ Rows.uptoBulk (DataW.slice ((List.range ys.length).map D) ((List.range (m - ys.length)).map fun j => D (ys.length + j)) : DataW H)
      rw [Rows.uptoBulk, bulkAll_sum, List.map_map]
      have := sum_le_range ys Bk (fun i => Rows.uptoBulk (D i)) (fun i b hb => (has i b hb).2.2.1)
      have e2 : (List.map (Rows.uptoBulk ∘ D) (List.range ys.length)) = List.map (fun i => Rows.uptoBulk (D i)) (List.range ys.length) := rfl
      rw [e2]
      omega
    · intro b hbm
      obtain ⟨i, hi⟩ := List.getElem?_of_mem hbm
      exact (has i b hi).2.2.2

/-- Fields, from a place on. -/
structure OpensF (P : Program) (fs : List Field) (off : Nat) (d : Kd α) (Wt : α → List Nat) (Bk : α → Nat) (Gd : α → Prop) : Prop where
  out : ∀ {H : Type} {enc : TypeId × Value → H} {w : World} {base : Nat} {spare : Nat → Bool} {held : Bool} {fuel : Nat} {cs : List Value} {xs : List (DataW H × List MemPlace)},
    cs.length = off + d.sz → xs.length = fs.length → (∀ (i : Nat) (f : Field), fs[i]? = some f → DataW.trod enc P w base spare held fuel f.type ((cs.drop f.offset).take (P.cellsOf f.type)) = xs[i]?) →
    ∃ a, d.K w a (cs.drop off) ∧ (∀ n ∈ Wt a, n = 0 ∨ ∃ m ∈ DataW.weightsEach P (fs.map (·.type)) (xs.map (·.1)), n ≤ m) ∧ Bk a ≤ Rows.uptoBulkAll (xs.map (·.1)) ∧ Gd a
theorem opensF_one {f : Field} {off : Nat} {d : Kd α} {Wt : α → List Nat} {Bk : α → Nat} {Gd : α → Prop} (ho : f.offset = off) (he : Opens P f.type d Wt Bk Gd) : OpensF P [f] off d Wt Bk Gd := by
  refine ⟨fun {H enc w base spare held fuel cs xs} hc hl h => ?_⟩
  match xs, hl with
  | [x], _ =>
    have h0 := h 0 f rfl
    rw [ho, he.sz, List.take_of_length_le (by rw [List.length_drop]; omega)] at h0
    obtain ⟨a, hK, hw, hb, hg⟩ := he.out h0
    refine ⟨a, hK, fun n hn => ?_, ?_, hg⟩
    · rcases hw n hn with h | ⟨m, hm, hle⟩
      · exact .inl h
      · refine .inr ⟨m, ?_, hle⟩
        simp only [List.map_cons, List.map_nil, DataW.weightsEach, List.append_nil]
        exact hm
    · simp only [List.map_cons, List.map_nil, Rows.uptoBulkAll]
      omega
theorem opensF_cons {f : Field} {fs : List Field} {off : Nat} {d : Kd α} {d' : Kd β} {Wt : α → List Nat} {Bk : α → Nat} {Gd : α → Prop} {Wt' : β → List Nat} {Bk' : β → Nat} {Gd' : β → Prop}
    (ho : f.offset = off) (he : Opens P f.type d Wt Bk Gd) (hr : OpensF P fs (off + d.sz) d' Wt' Bk' Gd') :
    OpensF P (f :: fs) off (Kd.pair d d') (fun x => Wt x.1 ++ Wt' x.2) (fun x => Bk x.1 + Bk' x.2) (fun x => Gd x.1 ∧ Gd' x.2) := by
  refine ⟨fun {H enc w base spare held fuel cs xs} hc hl h => ?_⟩
  have hsz : (Kd.pair d d').sz = d.sz + d'.sz := rfl
  rw [hsz] at hc
  match xs, hl with
  | x :: xs, hl =>
    have h0 := h 0 f rfl
    rw [ho, he.sz] at h0
    obtain ⟨a, hK, hw, hb, hg⟩ := he.out h0
    obtain ⟨b, hK', hw', hb', hg'⟩ := hr.out (enc := enc) (w := w) (base := base) (spare := spare) (held := held) (fuel := fuel) (cs := cs) (xs := xs) (by omega) (by simpa using hl) (fun i f' hf => by simpa using h (i + 1) f' (by simpa using hf))
    refine ⟨(a, b), ⟨(cs.drop off).take d.sz, cs.drop (off + d.sz), ?_, hK, hK'⟩, fun n hn => ?_, ?_, hg, hg'⟩
    · rw [← List.drop_drop, List.take_append_drop]
    · simp only [List.map_cons, DataW.weightsEach, List.mem_append]
      rcases List.mem_append.1 hn with hn | hn
      · rcases hw n hn with h | ⟨m, hm, hle⟩
        · exact .inl h
        · exact .inr ⟨m, .inl hm, hle⟩
      · rcases hw' n hn with h | ⟨m, hm, hle⟩
        · exact .inl h
        · exact .inr ⟨m, .inr hm, hle⟩
    · simp only [List.map_cons, Rows.uptoBulkAll]
      omega
theorem opens_struct {fs : Array Field} {d : Kd α} {Wt : α → List Nat} {Bk : α → Nat} {Gd : α → Prop} (ht : P.underlying t = some (.struct fs)) (hs : P.cellsOf t = d.sz) (he : OpensF P fs.toList 0 d Wt Bk Gd) :
    Opens P t d Wt (fun a => Bk a + 1) Gd := by
  refine ⟨hs, fun {H enc w base spare held fuel cs x} h => ?_⟩
  obtain ⟨xs, n, rfl, rfl, hl, hl2, hx⟩ := DataW.trod_struct ht h
  obtain ⟨a, hK, hw, hb, hg⟩ := he.out (enc := enc) (w := w) (base := base) (spare := spare) (held := held) (fuel := n) (cs := cs) (xs := xs) (by omega) (by simpa using hl2) (fun i f hf => hx i f (by simpa using hf))
  refine ⟨a, by simpa using hK, fun n hn => ?_, ?_, hg⟩
  · rcases hw n hn with h | ⟨m, hm, hle⟩
    · exact .inl h
    · refine .inr ⟨m, ?_, hle⟩
      show m ∈ (DataW.agg (xs.map (·.1))).weights P t
      rw [DataW.weights, ht]
      exact hm
  · show _ ≤ Rows.uptoBulk (DataW.agg (xs.map (·.1)))
    rw [Rows.uptoBulk]
    omega
theorem opens_iso {d : Kd α} {Wt : α → List Nat} {Bk : α → Nat} {Gd : α → Prop} (f : β → α) (g : α → β) (hfg : ∀ a, f (g a) = a) (h : Opens P t d Wt Bk Gd) : Opens P t (Kd.iso d f) (fun b => Wt (f b)) (fun b => Bk (f b)) (fun b => Gd (f b)) := by
  refine ⟨h.sz, fun {H enc w base spare held fuel cs x} hx => ?_⟩
  obtain ⟨a, hK, hw, hb, hg⟩ := h.out hx
  refine ⟨g a, ?_, ?_, ?_, ?_⟩
  · show d.K w (f (g a)) cs
    rw [hfg]; exact hK
  · rw [hfg]; exact hw
  · rw [hfg]; exact hb
  · rw [hfg]; exact hg

/-- At an argument: its weights are within the reach. -/
theorem arg {H : Type} {enc : TypeId × Value → H} {w : World} {base : Nat} {spare : Nat → Bool} {held : Bool} {v : Value} {dd : DataW H} {ps : List MemPlace} {d : Kd α} {Wt : α → List Nat} {Bk : α → Nat} {Gd : α → Prop} (h : Opens P t d Wt Bk Gd)
    (hx : DataW.Trod enc P w base spare held t v dd ps) : ∃ a, d.K w a v.cells.toList ∧ (∀ n ∈ Wt a, n = 0 ∨ ∃ m ∈ dd.weights P t, n ≤ m) ∧ Bk a ≤ Rows.uptoBulk dd ∧ Gd a := by
  obtain ⟨fuel, hf⟩ := hx
  obtain ⟨a, h1, h2, h3, h4⟩ := h.out hf
  exact ⟨a, h1, h2, h3, h4⟩
/-- Each weight of an argument is within the reach of the form. -/
theorem reach {H : Type} {ts : List TypeId} {ds : List (DataW H)} (h : (DataW.weightsEach P ts ds).all (· ≤ reachBytes) = true) {j : Nat} {t : TypeId} {dd : DataW H} (ht : ts[j]? = some t) (hd : ds[j]? = some dd) {l : List Nat}
    (hw : ∀ n ∈ l, n = 0 ∨ ∃ m ∈ dd.weights P t, n ≤ m) : ∀ n ∈ l, n ≤ 140737488351232 := by
  intro n hn
  rcases hw n hn with h0 | ⟨m, hm, hle⟩
  · omega
  · have := DataW.weights_mem_each ht hd m hm
    rw [List.all_eq_true] at h
    have h1 := of_decide_eq_true (h m this)
    unfold reachBytes at h1
    omega
end
end Go.Proofs.Ytnilogameaaooaa.Opens
