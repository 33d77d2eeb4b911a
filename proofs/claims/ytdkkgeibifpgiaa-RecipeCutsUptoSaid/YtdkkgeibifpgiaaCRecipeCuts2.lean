/- Texts of this claim, put together: Q27, RcSame, RcPlain, RcSame2, RcAwake, ExtOne, ExtFirst, ExtCuts, PdRecipeCuts, RcBulk, PureRecipeCuts. -/
import Derived.Test.YtdkkgeibifpgiaaQ0
import Derived.Test.YtdkkgeibifpgiaaCRecipeCuts1
import Derived.Test.YtdkkgeibifpgiaaRcParsed
import Derived.Test.YtdkkgeibifpgiaaRowS
import Derived.Test.YtdkkgeibifpgiaaRcFault
import Derived.Test.YtdkkgeibifpgiaaRcPrint
/- By a program of this session's: a plain Lean function for a Go function, and its contract. -/
namespace Go.Proofs.Ytdkkgeibifpgiaa.Q
open Go.RowKit Go.Proofs.YtdkkgeibifpgiaaW.PrintWords Go.Proofs.YtdkkgeibifpgiaaW.PrintLast Go.Proofs.YtdkkgeibifpgiaaW.PrintMore
attribute [local go_sem] max2_int min2_int max_two min_two max_three min_three max_four min_four Go.Proofs.Ytdkkgeibifpgiaa.Ord.str_leq Go.Proofs.Ytdkkgeibifpgiaa.Ord.str_gtr Go.Proofs.Ytdkkgeibifpgiaa.Ord.str_geq   -- for this text's walks alone
set_option linter.unusedVariables false
set_option linter.unusedSimpArgs false

/-! ### depotlaw21_alike: function 11 -/
mutual
def depotlaw21_alike.j0 : Nat → Bool → ByteArray → List ByteArray → List (S66) → ByteArray → List ByteArray → List (S66) → Option (Bool)
  | 0, _, _, _, _, _, _, _ => none
  | k + 1, x27, x222000, x222001, x222002, x223000, x223001, x223002 => if x27 = true then (some false) else (depotlaw21_alike.l0 k (x222002.length : Int) 0 x222000 x222001 x222002 x223000 x223001 x223002)
def depotlaw21_alike.l0 : Nat → Int → Int → ByteArray → List ByteArray → List (S66) → ByteArray → List ByteArray → List (S66) → Option (Bool)
  | 0, _, _, _, _, _, _, _, _ => none
  | k + 1, x30, x31, x222000, x222001, x222002, x223000, x223001, x223002 => if x31 < x30 then (if 0 ≤ x31 then (if x31 < (x222002.length : Int) then (if x31 < (x223002.length : Int) then (if ((rd_T66 x222002 x31).f0).toList = ((rd_T66 x223002 x31).f0).toList then ((depotlaw21_texts.f k ((rd_T66 x222002 x31).f1) ((rd_T66 x223002 x31).f1)).bind fun t228 => (if t228 = true then (depotlaw21_alike.l0 k x30 (wrap64 (x31 + 1)) x222000 x222001 x222002 x223000 x223001 x223002) else (some false))) else (some false)) else (none)) else (none)) else (none)) else (some true)
end
def depotlaw21_alike.f (k : Nat) (a0_0 : ByteArray) (l0_1 : List ByteArray) (l0_2 : List (S66)) (a1_0 : ByteArray) (l1_1 : List ByteArray) (l1_2 : List (S66)) : Option (Bool) := if a0_0.toList = a1_0.toList then ((depotlaw21_texts.f k l0_1 l1_1).bind fun t223 => (if t223 = true then (depotlaw21_alike.j0 k ((l0_2.length : Int) != (l1_2.length : Int)) a0_0 l0_1 l0_2 a1_0 l1_1 l1_2) else (depotlaw21_alike.j0 k true a0_0 l0_1 l0_2 a1_0 l1_1 l1_2))) else (depotlaw21_alike.j0 k true a0_0 l0_1 l0_2 a1_0 l1_1 l1_2)
theorem depotlaw21_alike.mono_l : ∀ k, (∀ y0 y1 y2 y3 y4 y5 y6, LeO (depotlaw21_alike.j0 k y0 y1 y2 y3 y4 y5 y6) (depotlaw21_alike.j0 (k + 1) y0 y1 y2 y3 y4 y5 y6)) ∧ (∀ y0 y1 y2 y3 y4 y5 y6 y7, LeO (depotlaw21_alike.l0 k y0 y1 y2 y3 y4 y5 y6 y7) (depotlaw21_alike.l0 (k + 1) y0 y1 y2 y3 y4 y5 y6 y7))
  | 0 => ⟨fun _ _ _ _ _ _ _ r h => by simp [depotlaw21_alike.j0] at h, fun _ _ _ _ _ _ _ _ r h => by simp [depotlaw21_alike.l0] at h⟩
  | k + 1 => by
    obtain ⟨ih0, ih1⟩ := depotlaw21_alike.mono_l k
    refine ⟨?_, ?_⟩
    · intro y0 y1 y2 y3 y4 y5 y6
      unfold depotlaw21_alike.j0
      repeat' first
      | (with_reducible exact ih0 _ _ _ _ _ _ _)
      | (with_reducible exact ih1 _ _ _ _ _ _ _ _)
      | (with_reducible exact depotlaw21_texts.mono _ _ _)
      | (with_reducible exact LeO.refl _)
      | (with_reducible exact LeO.none _)
      | (with_reducible refine LeO.ite ?_ ?_)
      | (with_reducible refine LeO.bind ?_ (fun _ => ?_))
      | exact ih0 _ _ _ _ _ _ _
      | exact ih1 _ _ _ _ _ _ _ _
      | exact depotlaw21_texts.mono _ _ _
      | exact LeO.none _
      | refine LeO.ite ?_ ?_
      | refine LeO.bind ?_ (fun _ => ?_)
    · intro y0 y1 y2 y3 y4 y5 y6 y7
      unfold depotlaw21_alike.l0
      repeat' first
      | (with_reducible exact ih0 _ _ _ _ _ _ _)
      | (with_reducible exact ih1 _ _ _ _ _ _ _ _)
      | (with_reducible exact depotlaw21_texts.mono _ _ _)
      | (with_reducible exact LeO.refl _)
      | (with_reducible exact LeO.none _)
      | (with_reducible refine LeO.ite ?_ ?_)
      | (with_reducible refine LeO.bind ?_ (fun _ => ?_))
      | exact ih0 _ _ _ _ _ _ _
      | exact ih1 _ _ _ _ _ _ _ _
      | exact depotlaw21_texts.mono _ _ _
      | exact LeO.none _
      | refine LeO.ite ?_ ?_
      | refine LeO.bind ?_ (fun _ => ?_)
theorem depotlaw21_alike.mono : ∀ a0 a1 a2 a3 a4 a5 k, LeO (depotlaw21_alike.f k a0 a1 a2 a3 a4 a5) (depotlaw21_alike.f (k + 1) a0 a1 a2 a3 a4 a5) := by
  intro a0 a1 a2 a3 a4 a5 k
  obtain ⟨ih0, ih1⟩ := depotlaw21_alike.mono_l k
  unfold depotlaw21_alike.f
  repeat' first
      | (with_reducible exact ih0 _ _ _ _ _ _ _)
      | (with_reducible exact ih1 _ _ _ _ _ _ _ _)
      | (with_reducible exact depotlaw21_texts.mono _ _ _)
      | (with_reducible exact LeO.refl _)
      | (with_reducible exact LeO.none _)
      | (with_reducible refine LeO.ite ?_ ?_)
      | (with_reducible refine LeO.bind ?_ (fun _ => ?_))
      | exact ih0 _ _ _ _ _ _ _
      | exact ih1 _ _ _ _ _ _ _ _
      | exact depotlaw21_texts.mono _ _ _
      | exact LeO.none _
      | refine LeO.ite ?_ ?_
      | refine LeO.bind ?_ (fun _ => ?_)
set_option maxHeartbeats 8000000 in
set_option maxRecDepth 100000 in
theorem depotlaw21_alike.calls (k : Nat) (a0_0 : ByteArray) (A0_1 : Option Addr) (c0_1 : Nat) (l0_1 : List ByteArray) (A0_2 : Option Addr) (c0_2 : Nat) (l0_2 : List (S66)) (a1_0 : ByteArray) (A1_1 : Option Addr) (c1_1 : Nat) (l1_1 : List ByteArray) (A1_2 : Option Addr) (c1_2 : Nat) (l1_2 : List (S66)) (r : Bool) (w : World) (hr0_1 : Kd.C Kd.string w A0_1 l0_1.length l0_1) (hc0_1 : l0_1.length ≤ c0_1) (hr0_2 : Kd.C k66 w A0_2 l0_2.length l0_2) (hc0_2 : l0_2.length ≤ c0_2) (hr1_1 : Kd.C Kd.string w A1_1 l1_1.length l1_1) (hc1_1 : l1_1.length ≤ c1_1) (hr1_2 : Kd.C k66 w A1_2 l1_2.length l1_2) (hc1_2 : l1_2.length ≤ c1_2) (h : depotlaw21_alike.f k a0_0 l0_1 l0_2 a1_0 l1_1 l1_2 = some r) :
    Calls Try.prog 11 #[.agg #[.string a0_0, .slice A0_1 l0_1.length c0_1, .slice A0_2 l0_2.length c0_2], .agg #[.string a1_0, .slice A1_1 l1_1.length c1_1, .slice A1_2 l1_2.length c1_2]] w fun e w' => e = .returned (.bool r) ∧ Below w.heap.size w w' := by
  have hu33 := Try.underlying33
  have HR0_1 := Aside0.mk hr0_1
  have HC0_1 := Aside0.mk hc0_1
  clear hr0_1 hc0_1
  have HR0_2 := Aside0.mk hr0_2
  have HC0_2 := Aside0.mk hc0_2
  clear hr0_2 hc0_2
  have HR1_1 := Aside0.mk hr1_1
  have HC1_1 := Aside0.mk hc1_1
  clear hr1_1 hc1_1
  have HR1_2 := Aside0.mk hr1_2
  have HC1_2 := Aside0.mk hc1_2
  clear hr1_2 hc1_2
  have HB := Aside0.mk (Below.refl w.heap.size w)
  have H : (if a0_0.toList = a1_0.toList then ((depotlaw21_texts.f k l0_1 l1_1).bind fun t223 => (if t223 = true then (depotlaw21_alike.j0 k ((l0_2.length : Int) != (l1_2.length : Int)) a0_0 l0_1 l0_2 a1_0 l1_1 l1_2) else (depotlaw21_alike.j0 k true a0_0 l0_1 l0_2 a1_0 l1_1 l1_2))) else (depotlaw21_alike.j0 k true a0_0 l0_1 l0_2 a1_0 l1_1 l1_2)) = some r := h
  clear h
  have HC3 := Aside0.mk H
  clear H
  go_enter Try.func11, Try.ntmps11
  go_upto_region 1 with (first | ((with_reducible refine gate_dst (N := 2) rfl ?_); (try (refine gate_guard (by rfl) ?_; dsimp only)); refine box_event ?hg (N := 2) ?hd (cs := #[.string a0_0, .slice A0_1 l0_1.length c0_1, .slice A0_2 l0_2.length c0_2]) (t := 33) ?hr ?_; (case hd => rfl); (case hg => rfl); (case hr => first | (go_simp; done) | (go_simp; rfl)); intro gb221 hg w4 hbox hb; have n0_ := Aside0.mk (below_step (by repeat (first | (with_reducible first | exact HB.out | apply below_alloc | apply pw_below_drewN | apply below_drew1) | exact HB.out)) hb); have n1_ := Aside0.mk (hbox); have n2_ := Aside0.mk ((by rw [hg]; exact (below_size (by repeat (first | (with_reducible first | exact HB.out | apply below_alloc | apply pw_below_drewN | apply below_drew1) | exact HB.out))) : w.heap.size ≤ gb221)); have n3_ := Aside0.mk ((by rw [hg]; exact (below_size (by repeat (first | (with_reducible first | exact HB.out | apply below_alloc | apply pw_below_drewN | apply below_drew1) | exact HB.out))) : w.heap.size ≤ gb221)); clear HB; have HB := n0_; have BK221 := n1_; have GW221 := n2_; have GE221 := n3_; clear n0_ n1_ n2_ n3_; clear hb hbox hg) | ((with_reducible refine gate_dst (N := 3) rfl ?_); (try (refine gate_guard (by rfl) ?_; dsimp only)); refine box_event ?hg (N := 3) ?hd (cs := #[.string a1_0, .slice A1_1 l1_1.length c1_1, .slice A1_2 l1_2.length c1_2]) (t := 33) ?hr ?_; (case hd => rfl); (case hg => rfl); (case hr => first | (go_simp; done) | (go_simp; rfl)); intro gb222 hg w5 hbox hb; have n0_ := Aside0.mk (blk_below (g := gb221) (o := .cells #[.string a0_0, .slice A0_1 l0_1.length c0_1, .slice A0_2 l0_2.length c0_2] 33 (0, 0)) (by (with_reducible repeat (first | refine blk_drewN ?_ _ | refine blk_drew ?_ | refine blk_alloc ?_ _)); exact BK221.out) hb); have n1_ := Aside0.mk (below_step (by repeat (first | (with_reducible first | exact HB.out | apply below_alloc | apply pw_below_drewN | apply below_drew1 | refine below_set ?_ GE221.out) | exact HB.out)) hb); have n2_ := Aside0.mk (hbox); have n3_ := Aside0.mk ((by rw [hg]; exact (below_size (by repeat (first | (with_reducible first | exact HB.out | apply below_alloc | apply pw_below_drewN | apply below_drew1 | refine below_set ?_ GE221.out) | exact HB.out))) : w.heap.size ≤ gb222)); have n4_ := Aside0.mk ((by rw [hg]; exact (below_size (by repeat (first | (with_reducible first | exact HB.out | apply below_alloc | apply pw_below_drewN | apply below_drew1 | refine below_set ?_ GE221.out) | exact HB.out))) : w.heap.size ≤ gb222)); have n5_ := Aside0.mk ((by rw [hg]; exact Nat.ne_of_lt (blk_lt (g := gb221) (o := .cells #[.string a0_0, .slice A0_1 l0_1.length c0_1, .slice A0_2 l0_2.length c0_2] 33 (0, 0)) (by (with_reducible repeat (first | refine blk_drewN ?_ _ | refine blk_drew ?_ | refine blk_alloc ?_ _)); exact BK221.out)) : gb221 ≠ gb222)); have n6_ := Aside0.mk ((by rw [hg]; exact Nat.ne_of_gt (blk_lt (g := gb221) (o := .cells #[.string a0_0, .slice A0_1 l0_1.length c0_1, .slice A0_2 l0_2.length c0_2] 33 (0, 0)) (by (with_reducible repeat (first | refine blk_drewN ?_ _ | refine blk_drew ?_ | refine blk_alloc ?_ _)); exact BK221.out)) : gb222 ≠ gb221)); clear BK221; clear HB; have BK221 := n0_; have HB := n1_; have BK222 := n2_; have GW222 := n3_; have GE222 := n4_; have NB221_222 := n5_; have NB222_221 := n6_; clear n0_ n1_ n2_ n3_ n4_ n5_ n6_; clear hb hbox hg))
  repeat (go_quiet (first | ((with_reducible refine gate_dst (N := 2) rfl ?_); (try (refine gate_guard (by rfl) ?_; dsimp only)); refine box_event ?hg (N := 2) ?hd (cs := #[.string a0_0, .slice A0_1 l0_1.length c0_1, .slice A0_2 l0_2.length c0_2]) (t := 33) ?hr ?_; (case hd => rfl); (case hg => rfl); (case hr => first | (go_simp; done) | (go_simp; rfl)); intro gb221 hg w4 hbox hb; have n0_ := Aside0.mk (below_step (by repeat (first | (with_reducible first | exact HB.out | apply below_alloc | apply pw_below_drewN | apply below_drew1) | exact HB.out)) hb); have n1_ := Aside0.mk (hbox); have n2_ := Aside0.mk ((by rw [hg]; exact (below_size (by repeat (first | (with_reducible first | exact HB.out | apply below_alloc | apply pw_below_drewN | apply below_drew1) | exact HB.out))) : w.heap.size ≤ gb221)); have n3_ := Aside0.mk ((by rw [hg]; exact (below_size (by repeat (first | (with_reducible first | exact HB.out | apply below_alloc | apply pw_below_drewN | apply below_drew1) | exact HB.out))) : w.heap.size ≤ gb221)); clear HB; have HB := n0_; have BK221 := n1_; have GW221 := n2_; have GE221 := n3_; clear n0_ n1_ n2_ n3_; clear hb hbox hg) | ((with_reducible refine gate_dst (N := 3) rfl ?_); (try (refine gate_guard (by rfl) ?_; dsimp only)); refine box_event ?hg (N := 3) ?hd (cs := #[.string a1_0, .slice A1_1 l1_1.length c1_1, .slice A1_2 l1_2.length c1_2]) (t := 33) ?hr ?_; (case hd => rfl); (case hg => rfl); (case hr => first | (go_simp; done) | (go_simp; rfl)); intro gb222 hg w5 hbox hb; have n0_ := Aside0.mk (blk_below (g := gb221) (o := .cells #[.string a0_0, .slice A0_1 l0_1.length c0_1, .slice A0_2 l0_2.length c0_2] 33 (0, 0)) (by (with_reducible repeat (first | refine blk_drewN ?_ _ | refine blk_drew ?_ | refine blk_alloc ?_ _)); exact BK221.out) hb); have n1_ := Aside0.mk (below_step (by repeat (first | (with_reducible first | exact HB.out | apply below_alloc | apply pw_below_drewN | apply below_drew1 | refine below_set ?_ GE221.out) | exact HB.out)) hb); have n2_ := Aside0.mk (hbox); have n3_ := Aside0.mk ((by rw [hg]; exact (below_size (by repeat (first | (with_reducible first | exact HB.out | apply below_alloc | apply pw_below_drewN | apply below_drew1 | refine below_set ?_ GE221.out) | exact HB.out))) : w.heap.size ≤ gb222)); have n4_ := Aside0.mk ((by rw [hg]; exact (below_size (by repeat (first | (with_reducible first | exact HB.out | apply below_alloc | apply pw_below_drewN | apply below_drew1 | refine below_set ?_ GE221.out) | exact HB.out))) : w.heap.size ≤ gb222)); have n5_ := Aside0.mk ((by rw [hg]; exact Nat.ne_of_lt (blk_lt (g := gb221) (o := .cells #[.string a0_0, .slice A0_1 l0_1.length c0_1, .slice A0_2 l0_2.length c0_2] 33 (0, 0)) (by (with_reducible repeat (first | refine blk_drewN ?_ _ | refine blk_drew ?_ | refine blk_alloc ?_ _)); exact BK221.out)) : gb221 ≠ gb222)); have n6_ := Aside0.mk ((by rw [hg]; exact Nat.ne_of_gt (blk_lt (g := gb221) (o := .cells #[.string a0_0, .slice A0_1 l0_1.length c0_1, .slice A0_2 l0_2.length c0_2] 33 (0, 0)) (by (with_reducible repeat (first | refine blk_drewN ?_ _ | refine blk_drew ?_ | refine blk_alloc ?_ _)); exact BK221.out)) : gb222 ≠ gb221)); clear BK221; clear HB; have BK221 := n0_; have HB := n1_; have BK222 := n2_; have GW222 := n3_; have GE222 := n4_; have NB221_222 := n5_; have NB222_221 := n6_; clear n0_ n1_ n2_ n3_ n4_ n5_ n6_; clear hb hbox hg)); go_upto_region 1 with (first | ((with_reducible refine gate_dst (N := 2) rfl ?_); (try (refine gate_guard (by rfl) ?_; dsimp only)); refine box_event ?hg (N := 2) ?hd (cs := #[.string a0_0, .slice A0_1 l0_1.length c0_1, .slice A0_2 l0_2.length c0_2]) (t := 33) ?hr ?_; (case hd => rfl); (case hg => rfl); (case hr => first | (go_simp; done) | (go_simp; rfl)); intro gb221 hg w4 hbox hb; have n0_ := Aside0.mk (below_step (by repeat (first | (with_reducible first | exact HB.out | apply below_alloc | apply pw_below_drewN | apply below_drew1) | exact HB.out)) hb); have n1_ := Aside0.mk (hbox); have n2_ := Aside0.mk ((by rw [hg]; exact (below_size (by repeat (first | (with_reducible first | exact HB.out | apply below_alloc | apply pw_below_drewN | apply below_drew1) | exact HB.out))) : w.heap.size ≤ gb221)); have n3_ := Aside0.mk ((by rw [hg]; exact (below_size (by repeat (first | (with_reducible first | exact HB.out | apply below_alloc | apply pw_below_drewN | apply below_drew1) | exact HB.out))) : w.heap.size ≤ gb221)); clear HB; have HB := n0_; have BK221 := n1_; have GW221 := n2_; have GE221 := n3_; clear n0_ n1_ n2_ n3_; clear hb hbox hg) | ((with_reducible refine gate_dst (N := 3) rfl ?_); (try (refine gate_guard (by rfl) ?_; dsimp only)); refine box_event ?hg (N := 3) ?hd (cs := #[.string a1_0, .slice A1_1 l1_1.length c1_1, .slice A1_2 l1_2.length c1_2]) (t := 33) ?hr ?_; (case hd => rfl); (case hg => rfl); (case hr => first | (go_simp; done) | (go_simp; rfl)); intro gb222 hg w5 hbox hb; have n0_ := Aside0.mk (blk_below (g := gb221) (o := .cells #[.string a0_0, .slice A0_1 l0_1.length c0_1, .slice A0_2 l0_2.length c0_2] 33 (0, 0)) (by (with_reducible repeat (first | refine blk_drewN ?_ _ | refine blk_drew ?_ | refine blk_alloc ?_ _)); exact BK221.out) hb); have n1_ := Aside0.mk (below_step (by repeat (first | (with_reducible first | exact HB.out | apply below_alloc | apply pw_below_drewN | apply below_drew1 | refine below_set ?_ GE221.out) | exact HB.out)) hb); have n2_ := Aside0.mk (hbox); have n3_ := Aside0.mk ((by rw [hg]; exact (below_size (by repeat (first | (with_reducible first | exact HB.out | apply below_alloc | apply pw_below_drewN | apply below_drew1 | refine below_set ?_ GE221.out) | exact HB.out))) : w.heap.size ≤ gb222)); have n4_ := Aside0.mk ((by rw [hg]; exact (below_size (by repeat (first | (with_reducible first | exact HB.out | apply below_alloc | apply pw_below_drewN | apply below_drew1 | refine below_set ?_ GE221.out) | exact HB.out))) : w.heap.size ≤ gb222)); have n5_ := Aside0.mk ((by rw [hg]; exact Nat.ne_of_lt (blk_lt (g := gb221) (o := .cells #[.string a0_0, .slice A0_1 l0_1.length c0_1, .slice A0_2 l0_2.length c0_2] 33 (0, 0)) (by (with_reducible repeat (first | refine blk_drewN ?_ _ | refine blk_drew ?_ | refine blk_alloc ?_ _)); exact BK221.out)) : gb221 ≠ gb222)); have n6_ := Aside0.mk ((by rw [hg]; exact Nat.ne_of_gt (blk_lt (g := gb221) (o := .cells #[.string a0_0, .slice A0_1 l0_1.length c0_1, .slice A0_2 l0_2.length c0_2] 33 (0, 0)) (by (with_reducible repeat (first | refine blk_drewN ?_ _ | refine blk_drew ?_ | refine blk_alloc ?_ _)); exact BK221.out)) : gb222 ≠ gb221)); clear BK221; clear HB; have BK221 := n0_; have HB := n1_; have BK222 := n2_; have GW222 := n3_; have GE222 := n4_; have NB221_222 := n5_; have NB222_221 := n6_; clear n0_ n1_ n2_ n3_ n4_ n5_ n6_; clear hb hbox hg)))
  (try simp only [Act.put, List.setIfInBounds_toArray, List.set_cons_zero, List.set_cons_succ])
  go_cut [27] (fun v27 wc => ∃ (kq : Nat) (x27_2 : Bool), v27 = .bool x27_2 ∧ Aside0 (depotlaw21_alike.j0 kq x27_2 a0_0 l0_1 l0_2 a1_0 l1_1 l1_2 = some r) ∧ Aside0 (kq ≤ k) ∧ Aside0 (wc.heap[gb221]? = some (.cells #[.string a0_0, (.slice A0_1 l0_1.length c0_1), (.slice A0_2 l0_2.length c0_2)] 33 (0, 0))) ∧ Aside0 (wc.heap[gb222]? = some (.cells #[.string a1_0, (.slice A1_1 l1_1.length c1_1), (.slice A1_2 l1_2.length c1_2)] 33 (0, 0))) ∧ Aside0 (Below w.heap.size w wc))
  case first =>
    have H := HC3.out
    clear HC3
    by_cases c6 : a0_0.toList = a1_0.toList
    · rw [if_pos c6] at H
      have c6b0 : (a0_0.toList == a1_0.toList) = true := beq_iff_eq.mpr c6
      have c6b1 : (a0_0.toList != a1_0.toList) = false := bne_eq_false_iff_eq.mpr c6
      clear c6
      (first | rw [c6b0] | (simp only [i64_w, i32_w]; rw [c6b0]) | skip)
      replace H := Option.bind_eq_some_iff.mp H
      obtain ⟨t223, A70, H⟩ := H
      replace H : (if t223 = true then (depotlaw21_alike.j0 k ((l0_2.length : Int) != (l1_2.length : Int)) a0_0 l0_1 l0_2 a1_0 l1_1 l1_2) else (depotlaw21_alike.j0 k true a0_0 l0_1 l0_2 a1_0 l1_1 l1_2)) = some r := H
      have A7 := Aside0.mk A70
      clear A70
      by_cases c8 : t223 = true
      · subst c8
        have H1 : (depotlaw21_alike.j0 k ((l0_2.length : Int) != (l1_2.length : Int)) a0_0 l0_1 l0_2 a1_0 l1_1 l1_2) = some r := by rw [if_pos rfl] at H; exact H
        clear H
        have H := H1
        clear H1
        have H' := Aside0.mk H
        clear H
        have hnb9 := NB221_222.out
        have hnc9 := NB222_221.out
        have hcz10_0 : w5.cell? ⟨gb221, 0, none⟩ = some (.string a0_0) := (blk_cell BK221.out 0).trans rfl
        have hcz10_1 : w5.cell? ⟨gb221, 1, none⟩ = some (.slice A0_1 l0_1.length c0_1) := (blk_cell BK221.out 1).trans rfl
        have hcz10_2 : w5.cell? ⟨gb221, 2, none⟩ = some (.slice A0_2 l0_2.length c0_2) := (blk_cell BK221.out 2).trans rfl
        have hfz10_0 := blk_frozen BK221.out 0
        have hfz10_1 := blk_frozen BK221.out 1
        have hfz10_2 := blk_frozen BK221.out 2
        have hcz11_0 : w5.cell? ⟨gb222, 0, none⟩ = some (.string a1_0) := (blk_cell BK222.out 0).trans rfl
        have hcz11_1 : w5.cell? ⟨gb222, 1, none⟩ = some (.slice A1_1 l1_1.length c1_1) := (blk_cell BK222.out 1).trans rfl
        have hcz11_2 : w5.cell? ⟨gb222, 2, none⟩ = some (.slice A1_2 l1_2.length c1_2) := (blk_cell BK222.out 2).trans rfl
        have hfz11_0 := blk_frozen BK222.out 0
        have hfz11_1 := blk_frozen BK222.out 1
        have hfz11_2 := blk_frozen BK222.out 2
        go_wp2_with (first | (go_at_call 27; (with_reducible refine (depotlaw21_texts.calls k _ _ l0_1 _ _ l1_1 true _ ?side1 ?side2 ?side3 ?side4 A7.out).mono ?_); (case side1 => repeat (first | exact (Kd.C_below HR0_1.out HB.out) | (with_reducible refine Kd.C_alloc ?_ _) | (with_reducible refine Kd.C_drewN ?_ _) | (with_reducible refine Kd.C_drew ?_))); (case side2 => exact HC0_1.out); (case side3 => repeat (first | exact (Kd.C_below HR1_1.out HB.out) | (with_reducible refine Kd.C_alloc ?_ _) | (with_reducible refine Kd.C_drewN ?_ _) | (with_reducible refine Kd.C_drew ?_))); (case side4 => exact HC1_1.out); rintro e w' ⟨rfl, ⟨nd, rfl⟩⟩; (try first | exact ⟨rfl, _, World.drewN_drewN _ _ _⟩ | exact ⟨rfl, _, Eq.trans (World.drewN_drewN _ _ _) (congrArg (World.drewN _) (Nat.add_assoc _ _ _))⟩)))
        repeat (go_quiet (first | (go_at_call 27; (with_reducible refine (depotlaw21_texts.calls k _ _ l0_1 _ _ l1_1 true _ ?side1 ?side2 ?side3 ?side4 A7.out).mono ?_); (case side1 => repeat (first | exact (Kd.C_below HR0_1.out HB.out) | (with_reducible refine Kd.C_alloc ?_ _) | (with_reducible refine Kd.C_drewN ?_ _) | (with_reducible refine Kd.C_drew ?_))); (case side2 => exact HC0_1.out); (case side3 => repeat (first | exact (Kd.C_below HR1_1.out HB.out) | (with_reducible refine Kd.C_alloc ?_ _) | (with_reducible refine Kd.C_drewN ?_ _) | (with_reducible refine Kd.C_drew ?_))); (case side4 => exact HC1_1.out); rintro e w' ⟨rfl, ⟨nd, rfl⟩⟩; (try first | exact ⟨rfl, _, World.drewN_drewN _ _ _⟩ | exact ⟨rfl, _, Eq.trans (World.drewN_drewN _ _ _) (congrArg (World.drewN _) (Nat.add_assoc _ _ _))⟩))); try go_wp2_with (first | (go_at_call 27; (with_reducible refine (depotlaw21_texts.calls k _ _ l0_1 _ _ l1_1 true _ ?side1 ?side2 ?side3 ?side4 A7.out).mono ?_); (case side1 => repeat (first | exact (Kd.C_below HR0_1.out HB.out) | (with_reducible refine Kd.C_alloc ?_ _) | (with_reducible refine Kd.C_drewN ?_ _) | (with_reducible refine Kd.C_drew ?_))); (case side2 => exact HC0_1.out); (case side3 => repeat (first | exact (Kd.C_below HR1_1.out HB.out) | (with_reducible refine Kd.C_alloc ?_ _) | (with_reducible refine Kd.C_drewN ?_ _) | (with_reducible refine Kd.C_drew ?_))); (case side4 => exact HC1_1.out); rintro e w' ⟨rfl, ⟨nd, rfl⟩⟩; (try first | exact ⟨rfl, _, World.drewN_drewN _ _ _⟩ | exact ⟨rfl, _, Eq.trans (World.drewN_drewN _ _ _) (congrArg (World.drewN _) (Nat.add_assoc _ _ _))⟩))))
        go_meet
        case rel => exact ⟨_, (((l0_2.length : Int) != (l1_2.length : Int))), (by first | rfl | (simp; done) | (simp [*]; done)), H', ⟨by first | omega | exact Nat.le_refl _⟩, ⟨by (with_reducible repeat (first | refine blk_drewN ?_ _ | refine blk_drew ?_ | refine blk_alloc ?_ _)); exact BK221.out⟩, ⟨by (with_reducible repeat (first | refine blk_drewN ?_ _ | refine blk_drew ?_ | refine blk_alloc ?_ _)); exact BK222.out⟩, ⟨by repeat (first | (with_reducible first | exact HB.out | apply below_alloc | apply pw_below_drewN | apply below_drew1 | refine below_set ?_ GE221.out | refine below_set ?_ GE222.out) | exact HB.out)⟩⟩
      · replace c8 := Bool.eq_false_iff.mpr c8
        subst c8
        have H1 : (depotlaw21_alike.j0 k true a0_0 l0_1 l0_2 a1_0 l1_1 l1_2) = some r := by rw [if_neg (show ¬ (false = true) by decide)] at H; exact H
        clear H
        have H := H1
        clear H1
        have H' := Aside0.mk H
        clear H
        have hnb12 := NB221_222.out
        have hnc12 := NB222_221.out
        have hcz13_0 : w5.cell? ⟨gb221, 0, none⟩ = some (.string a0_0) := (blk_cell BK221.out 0).trans rfl
        have hcz13_1 : w5.cell? ⟨gb221, 1, none⟩ = some (.slice A0_1 l0_1.length c0_1) := (blk_cell BK221.out 1).trans rfl
        have hcz13_2 : w5.cell? ⟨gb221, 2, none⟩ = some (.slice A0_2 l0_2.length c0_2) := (blk_cell BK221.out 2).trans rfl
        have hfz13_0 := blk_frozen BK221.out 0
        have hfz13_1 := blk_frozen BK221.out 1
        have hfz13_2 := blk_frozen BK221.out 2
        have hcz14_0 : w5.cell? ⟨gb222, 0, none⟩ = some (.string a1_0) := (blk_cell BK222.out 0).trans rfl
        have hcz14_1 : w5.cell? ⟨gb222, 1, none⟩ = some (.slice A1_1 l1_1.length c1_1) := (blk_cell BK222.out 1).trans rfl
        have hcz14_2 : w5.cell? ⟨gb222, 2, none⟩ = some (.slice A1_2 l1_2.length c1_2) := (blk_cell BK222.out 2).trans rfl
        have hfz14_0 := blk_frozen BK222.out 0
        have hfz14_1 := blk_frozen BK222.out 1
        have hfz14_2 := blk_frozen BK222.out 2
        go_wp2_with (first | (go_at_call 27; (with_reducible refine (depotlaw21_texts.calls k _ _ l0_1 _ _ l1_1 false _ ?side1 ?side2 ?side3 ?side4 A7.out).mono ?_); (case side1 => repeat (first | exact (Kd.C_below HR0_1.out HB.out) | (with_reducible refine Kd.C_alloc ?_ _) | (with_reducible refine Kd.C_drewN ?_ _) | (with_reducible refine Kd.C_drew ?_))); (case side2 => exact HC0_1.out); (case side3 => repeat (first | exact (Kd.C_below HR1_1.out HB.out) | (with_reducible refine Kd.C_alloc ?_ _) | (with_reducible refine Kd.C_drewN ?_ _) | (with_reducible refine Kd.C_drew ?_))); (case side4 => exact HC1_1.out); rintro e w' ⟨rfl, ⟨nd, rfl⟩⟩; (try first | exact ⟨rfl, _, World.drewN_drewN _ _ _⟩ | exact ⟨rfl, _, Eq.trans (World.drewN_drewN _ _ _) (congrArg (World.drewN _) (Nat.add_assoc _ _ _))⟩)))
        repeat (go_quiet (first | (go_at_call 27; (with_reducible refine (depotlaw21_texts.calls k _ _ l0_1 _ _ l1_1 false _ ?side1 ?side2 ?side3 ?side4 A7.out).mono ?_); (case side1 => repeat (first | exact (Kd.C_below HR0_1.out HB.out) | (with_reducible refine Kd.C_alloc ?_ _) | (with_reducible refine Kd.C_drewN ?_ _) | (with_reducible refine Kd.C_drew ?_))); (case side2 => exact HC0_1.out); (case side3 => repeat (first | exact (Kd.C_below HR1_1.out HB.out) | (with_reducible refine Kd.C_alloc ?_ _) | (with_reducible refine Kd.C_drewN ?_ _) | (with_reducible refine Kd.C_drew ?_))); (case side4 => exact HC1_1.out); rintro e w' ⟨rfl, ⟨nd, rfl⟩⟩; (try first | exact ⟨rfl, _, World.drewN_drewN _ _ _⟩ | exact ⟨rfl, _, Eq.trans (World.drewN_drewN _ _ _) (congrArg (World.drewN _) (Nat.add_assoc _ _ _))⟩))); try go_wp2_with (first | (go_at_call 27; (with_reducible refine (depotlaw21_texts.calls k _ _ l0_1 _ _ l1_1 false _ ?side1 ?side2 ?side3 ?side4 A7.out).mono ?_); (case side1 => repeat (first | exact (Kd.C_below HR0_1.out HB.out) | (with_reducible refine Kd.C_alloc ?_ _) | (with_reducible refine Kd.C_drewN ?_ _) | (with_reducible refine Kd.C_drew ?_))); (case side2 => exact HC0_1.out); (case side3 => repeat (first | exact (Kd.C_below HR1_1.out HB.out) | (with_reducible refine Kd.C_alloc ?_ _) | (with_reducible refine Kd.C_drewN ?_ _) | (with_reducible refine Kd.C_drew ?_))); (case side4 => exact HC1_1.out); rintro e w' ⟨rfl, ⟨nd, rfl⟩⟩; (try first | exact ⟨rfl, _, World.drewN_drewN _ _ _⟩ | exact ⟨rfl, _, Eq.trans (World.drewN_drewN _ _ _) (congrArg (World.drewN _) (Nat.add_assoc _ _ _))⟩))))
        go_meet
        case rel => exact ⟨_, (true), (by first | rfl | (simp; done) | (simp [*]; done)), H', ⟨by first | omega | exact Nat.le_refl _⟩, ⟨by (with_reducible repeat (first | refine blk_drewN ?_ _ | refine blk_drew ?_ | refine blk_alloc ?_ _)); exact BK221.out⟩, ⟨by (with_reducible repeat (first | refine blk_drewN ?_ _ | refine blk_drew ?_ | refine blk_alloc ?_ _)); exact BK222.out⟩, ⟨by repeat (first | (with_reducible first | exact HB.out | apply below_alloc | apply pw_below_drewN | apply below_drew1 | refine below_set ?_ GE221.out | refine below_set ?_ GE222.out) | exact HB.out)⟩⟩
    · rw [if_neg c6] at H
      have c6b0 : (a0_0.toList == a1_0.toList) = false := beq_eq_false_iff_ne.mpr c6
      have c6b1 : (a0_0.toList != a1_0.toList) = true := bne_iff_ne.mpr c6
      (first | rw [c6b0] | (simp only [i64_w, i32_w]; rw [c6b0]) | skip)
      have H' := Aside0.mk H
      clear H
      have hnb15 := NB221_222.out
      have hnc15 := NB222_221.out
      have hcz16_0 : w5.cell? ⟨gb221, 0, none⟩ = some (.string a0_0) := (blk_cell BK221.out 0).trans rfl
      have hcz16_1 : w5.cell? ⟨gb221, 1, none⟩ = some (.slice A0_1 l0_1.length c0_1) := (blk_cell BK221.out 1).trans rfl
      have hcz16_2 : w5.cell? ⟨gb221, 2, none⟩ = some (.slice A0_2 l0_2.length c0_2) := (blk_cell BK221.out 2).trans rfl
      have hfz16_0 := blk_frozen BK221.out 0
      have hfz16_1 := blk_frozen BK221.out 1
      have hfz16_2 := blk_frozen BK221.out 2
      have hcz17_0 : w5.cell? ⟨gb222, 0, none⟩ = some (.string a1_0) := (blk_cell BK222.out 0).trans rfl
      have hcz17_1 : w5.cell? ⟨gb222, 1, none⟩ = some (.slice A1_1 l1_1.length c1_1) := (blk_cell BK222.out 1).trans rfl
      have hcz17_2 : w5.cell? ⟨gb222, 2, none⟩ = some (.slice A1_2 l1_2.length c1_2) := (blk_cell BK222.out 2).trans rfl
      have hfz17_0 := blk_frozen BK222.out 0
      have hfz17_1 := blk_frozen BK222.out 1
      have hfz17_2 := blk_frozen BK222.out 2
      go_wp2
      repeat (go_quiet (fail); try go_wp2)
      go_meet
      case rel => exact ⟨_, (true), (by first | rfl | (simp; done) | (simp [*]; done)), H', ⟨by first | omega | exact Nat.le_refl _⟩, ⟨by (with_reducible repeat (first | refine blk_drewN ?_ _ | refine blk_drew ?_ | refine blk_alloc ?_ _)); exact BK221.out⟩, ⟨by (with_reducible repeat (first | refine blk_drewN ?_ _ | refine blk_drew ?_ | refine blk_alloc ?_ _)); exact BK222.out⟩, ⟨by repeat (first | (with_reducible first | exact HB.out | apply below_alloc | apply pw_below_drewN | apply below_drew1 | refine below_set ?_ GE221.out | refine below_set ?_ GE222.out) | exact HB.out)⟩⟩
  case rest =>
    clear HC3
    try clear c1
    try clear p2
    try clear c6
    try clear c6b0
    try clear c6b1
    try clear c8
    try clear c9
    try clear c11
    try clear c12
    try clear c15
    try clear hcz10_0
    try clear hcz10_1
    try clear hcz10_2
    try clear hcz11_0
    try clear hcz11_1
    try clear hcz11_2
    try clear hcz13_0
    try clear hcz13_1
    try clear hcz13_2
    try clear hcz14_0
    try clear hcz14_1
    try clear hcz14_2
    try clear hcz16_0
    try clear hcz16_1
    try clear hcz16_2
    try clear hcz17_0
    try clear hcz17_1
    try clear hcz17_2
    try clear hfz10_0
    try clear hfz10_1
    try clear hfz10_2
    try clear hfz11_0
    try clear hfz11_1
    try clear hfz11_2
    try clear hfz13_0
    try clear hfz13_1
    try clear hfz13_2
    try clear hfz14_0
    try clear hfz14_1
    try clear hfz14_2
    try clear hfz16_0
    try clear hfz16_1
    try clear hfz16_2
    try clear hfz17_0
    try clear hfz17_1
    try clear hfz17_2
    obtain ⟨kq, x27_2, rfl, HA, HJ2, BK221, BK222, HB⟩ := hcut
    cases kq with
    | zero => exact absurd HA.out (by simp [depotlaw21_alike.j0])
    | succ kj2 =>
      have H := HA.out
      clear HA
      simp only [depotlaw21_alike.j0] at H
      by_cases c18 : x27_2 = true
      · subst c18
        have H1 : (some false) = some r := by rw [if_pos rfl] at H; exact H
        clear H
        have H := H1
        clear H1
        obtain rfl := Option.some.inj H
        go_wp2
        repeat (go_quiet (fail); try go_wp2)
        go_ret
        exact ⟨by first | rfl | (simp [errW_none, errW_some] <;> rfl) | (simp [*, errW_none, errW_some] <;> rfl), by repeat (first | (with_reducible first | exact HB.out | apply below_alloc | apply pw_below_drewN | apply below_drew1 | refine below_set ?_ GE221.out | refine below_set ?_ GE222.out) | exact HB.out)⟩
      · replace c18 := Bool.eq_false_iff.mpr c18
        subst c18
        have H1 : (depotlaw21_alike.l0 kj2 (l0_2.length : Int) 0 a0_0 l0_1 l0_2 a1_0 l1_1 l1_2) = some r := by rw [if_neg (show ¬ (false = true) by decide)] at H; exact H
        clear H
        have H := H1
        clear H1
        have H' := Aside0.mk H
        clear H
        have hnb19 := NB221_222.out
        have hnc19 := NB222_221.out
        have hcz20_0 : wc.cell? ⟨gb221, 0, none⟩ = some (.string a0_0) := (blk_cell BK221.out 0).trans rfl
        have hcz20_1 : wc.cell? ⟨gb221, 1, none⟩ = some (.slice A0_1 l0_1.length c0_1) := (blk_cell BK221.out 1).trans rfl
        have hcz20_2 : wc.cell? ⟨gb221, 2, none⟩ = some (.slice A0_2 l0_2.length c0_2) := (blk_cell BK221.out 2).trans rfl
        have hfz20_0 := blk_frozen BK221.out 0
        have hfz20_1 := blk_frozen BK221.out 1
        have hfz20_2 := blk_frozen BK221.out 2
        go_wp2
        repeat (go_quiet (fail); try go_wp2)
        go_loopg [31] kj2 (fun kq v31 w' => ∃ (x31_2 : Int), v31 = .int .i64 x31_2 ∧ Aside0 (depotlaw21_alike.l0 kq (l0_2.length : Int) x31_2 a0_0 l0_1 l0_2 a1_0 l1_1 l1_2 = some r) ∧ Aside0 (kq ≤ kj2) ∧ Aside0 (w'.heap[gb221]? = some (.cells #[.string a0_0, (.slice A0_1 l0_1.length c0_1), (.slice A0_2 l0_2.length c0_2)] 33 (0, 0))) ∧ Aside0 (w'.heap[gb222]? = some (.cells #[.string a1_0, (.slice A1_1 l1_1.length c1_1), (.slice A1_2 l1_2.length c1_2)] 33 (0, 0))) ∧ Aside0 (Below w.heap.size w w'))
        case atStart => exact ⟨(0), (by first | rfl | (simp; done) | (simp [*]; done)), H', ⟨Nat.le_refl _⟩, ⟨by (with_reducible repeat (first | refine blk_drewN ?_ _ | refine blk_drew ?_ | refine blk_alloc ?_ _)); exact BK221.out⟩, ⟨by (with_reducible repeat (first | refine blk_drewN ?_ _ | refine blk_drew ?_ | refine blk_alloc ?_ _)); exact BK222.out⟩, ⟨by repeat (first | (with_reducible first | exact HB.out | apply below_alloc | apply pw_below_drewN | apply below_drew1 | refine below_set ?_ GE221.out | refine below_set ?_ GE222.out) | exact HB.out)⟩⟩
        case round =>
          clear H'
          try clear c1
          try clear p2
          try clear c6
          try clear c6b0
          try clear c6b1
          try clear c8
          try clear c9
          try clear c11
          try clear c12
          try clear c15
          try clear c18
          try clear c19
          try clear hcz10_0
          try clear hcz10_1
          try clear hcz10_2
          try clear hcz11_0
          try clear hcz11_1
          try clear hcz11_2
          try clear hcz13_0
          try clear hcz13_1
          try clear hcz13_2
          try clear hcz14_0
          try clear hcz14_1
          try clear hcz14_2
          try clear hcz16_0
          try clear hcz16_1
          try clear hcz16_2
          try clear hcz17_0
          try clear hcz17_1
          try clear hcz17_2
          try clear hcz20_0
          try clear hcz20_1
          try clear hcz20_2
          try clear hfz10_0
          try clear hfz10_1
          try clear hfz10_2
          try clear hfz11_0
          try clear hfz11_1
          try clear hfz11_2
          try clear hfz13_0
          try clear hfz13_1
          try clear hfz13_2
          try clear hfz14_0
          try clear hfz14_1
          try clear hfz14_2
          try clear hfz16_0
          try clear hfz16_1
          try clear hfz16_2
          try clear hfz17_0
          try clear hfz17_1
          try clear hfz17_2
          try clear hfz20_0
          try clear hfz20_1
          try clear hfz20_2
          try clear p2
          obtain ⟨x31_2, rfl, HA, HK2, BK221, BK222, HB⟩ := hrel
          cases gk with
          | zero => exact absurd HA.out (by simp [depotlaw21_alike.l0])
          | succ k2 =>
            have H := HA.out
            clear HA
            simp only [depotlaw21_alike.l0] at H
            by_cases c21 : x31_2 < (l0_2.length : Int)
            · rw [if_pos c21] at H
              have c21b0 : decide (x31_2 < (l0_2.length : Int)) = true := decide_eq_true c21
              clear c21
              by_cases c22 : 0 ≤ x31_2
              · rw [if_pos c22] at H
                have c22b0 : decide (0 ≤ x31_2) = true := decide_eq_true c22
                clear c22
                by_cases c23 : x31_2 < (l0_2.length : Int)
                · rw [if_pos c23] at H
                  have c23b0 : decide (x31_2 < (l0_2.length : Int)) = true := decide_eq_true c23
                  clear c23
                  by_cases c24 : x31_2 < (l1_2.length : Int)
                  · rw [if_pos c24] at H
                    have c24b0 : decide (x31_2 < (l1_2.length : Int)) = true := decide_eq_true c24
                    clear c24
                    by_cases c25 : ((rd_T66 l0_2 x31_2).f0).toList = ((rd_T66 l1_2 x31_2).f0).toList
                    · rw [if_pos c25] at H
                      have c25b0 : (((rd_T66 l0_2 x31_2).f0).toList == ((rd_T66 l1_2 x31_2).f0).toList) = true := beq_iff_eq.mpr c25
                      have c25b1 : (((rd_T66 l0_2 x31_2).f0).toList != ((rd_T66 l1_2 x31_2).f0).toList) = false := bne_eq_false_iff_eq.mpr c25
                      clear c25
                      replace H := Option.bind_eq_some_iff.mp H
                      obtain ⟨t228, A260, H⟩ := H
                      replace H : (if t228 = true then (depotlaw21_alike.l0 k2 (l0_2.length : Int) (wrap64 (x31_2 + 1)) a0_0 l0_1 l0_2 a1_0 l1_1 l1_2) else (some false)) = some r := H
                      have A26 := Aside0.mk A260
                      clear A260
                      by_cases c27 : t228 = true
                      · subst c27
                        have H1 : (depotlaw21_alike.l0 k2 (l0_2.length : Int) (wrap64 (x31_2 + 1)) a0_0 l0_1 l0_2 a1_0 l1_1 l1_2) = some r := by rw [if_pos rfl] at H; exact H
                        clear H
                        have H := H1
                        clear H1
                        have H' := Aside0.mk H
                        clear H
                        have hnb28 := NB221_222.out
                        have hnc28 := NB222_221.out
                        have hcz29_0 : wr.cell? ⟨gb221, 0, none⟩ = some (.string a0_0) := (blk_cell BK221.out 0).trans rfl
                        have hcz29_1 : wr.cell? ⟨gb221, 1, none⟩ = some (.slice A0_1 l0_1.length c0_1) := (blk_cell BK221.out 1).trans rfl
                        have hcz29_2 : wr.cell? ⟨gb221, 2, none⟩ = some (.slice A0_2 l0_2.length c0_2) := (blk_cell BK221.out 2).trans rfl
                        have hfz29_0 := blk_frozen BK221.out 0
                        have hfz29_1 := blk_frozen BK221.out 1
                        have hfz29_2 := blk_frozen BK221.out 2
                        have p224 : 0 ≤ (x31_2 : Int) := of_decide_eq_true (by first | (with_reducible assumption) | assumption)
                        have q224 : x31_2 < (l0_2.length : Int) := of_decide_eq_true (by first | (with_reducible assumption) | assumption)
                        obtain ⟨ad224, A224_1, c224_1, e224, hx224_0, hx224_1, hl224_1, hi224_1⟩ := at_T66 HR0_2.out x31_2 p224 q224
                        cases e224
                        replace hx224_0 := (HB.out.cell (World.block_lt_of_cell? w _ hx224_0)).trans hx224_0
                        replace hx224_1 := (HB.out.cell (World.block_lt_of_cell? w _ hx224_1)).trans hx224_1
                        have HR224_1 := Aside0.mk hi224_1
                        have HC224_1 := Aside0.mk hl224_1
                        clear hi224_1 hl224_1
                        replace p224 := eq_true p224
                        replace q224 := eq_true q224
                        have hcz30_0 : wr.cell? ⟨gb222, 0, none⟩ = some (.string a1_0) := (blk_cell BK222.out 0).trans rfl
                        have hcz30_1 : wr.cell? ⟨gb222, 1, none⟩ = some (.slice A1_1 l1_1.length c1_1) := (blk_cell BK222.out 1).trans rfl
                        have hcz30_2 : wr.cell? ⟨gb222, 2, none⟩ = some (.slice A1_2 l1_2.length c1_2) := (blk_cell BK222.out 2).trans rfl
                        have hfz30_0 := blk_frozen BK222.out 0
                        have hfz30_1 := blk_frozen BK222.out 1
                        have hfz30_2 := blk_frozen BK222.out 2
                        have p225 : 0 ≤ (x31_2 : Int) := of_decide_eq_true (by first | (with_reducible assumption) | assumption)
                        have q225 : x31_2 < (l1_2.length : Int) := of_decide_eq_true (by first | (with_reducible assumption) | assumption)
                        obtain ⟨ad225, A225_1, c225_1, e225, hx225_0, hx225_1, hl225_1, hi225_1⟩ := at_T66 HR1_2.out x31_2 p225 q225
                        cases e225
                        replace hx225_0 := (HB.out.cell (World.block_lt_of_cell? w _ hx225_0)).trans hx225_0
                        replace hx225_1 := (HB.out.cell (World.block_lt_of_cell? w _ hx225_1)).trans hx225_1
                        have HR225_1 := Aside0.mk hi225_1
                        have HC225_1 := Aside0.mk hl225_1
                        clear hi225_1 hl225_1
                        replace p225 := eq_true p225
                        replace q225 := eq_true q225
                        have p226 : 0 ≤ (x31_2 : Int) := of_decide_eq_true (by first | (with_reducible assumption) | assumption)
                        have q226 : x31_2 < (l0_2.length : Int) := of_decide_eq_true (by first | (with_reducible assumption) | assumption)
                        obtain ⟨ad226, A226_1, c226_1, e226, hx226_0, hx226_1, hl226_1, hi226_1⟩ := at_T66 HR0_2.out x31_2 p226 q226
                        obtain rfl : ad224 = ad226 := (by injection e226)
                        replace hx226_0 := (HB.out.cell (World.block_lt_of_cell? w _ hx226_0)).trans hx226_0
                        replace hx226_1 := (HB.out.cell (World.block_lt_of_cell? w _ hx226_1)).trans hx226_1
                        have HR226_1 := Aside0.mk hi226_1
                        have HC226_1 := Aside0.mk hl226_1
                        clear hi226_1 hl226_1
                        replace p226 := eq_true p226
                        replace q226 := eq_true q226
                        have ea_ := Option.some.inj (hx224_1.symm.trans hx226_1)
                        injection ea_ with ea_ en_ ec_
                        subst ea_
                        subst ec_
                        clear en_
                        have p227 : 0 ≤ (x31_2 : Int) := of_decide_eq_true (by first | (with_reducible assumption) | assumption)
                        have q227 : x31_2 < (l1_2.length : Int) := of_decide_eq_true (by first | (with_reducible assumption) | assumption)
                        obtain ⟨ad227, A227_1, c227_1, e227, hx227_0, hx227_1, hl227_1, hi227_1⟩ := at_T66 HR1_2.out x31_2 p227 q227
                        obtain rfl : ad225 = ad227 := (by injection e227)
                        replace hx227_0 := (HB.out.cell (World.block_lt_of_cell? w _ hx227_0)).trans hx227_0
                        replace hx227_1 := (HB.out.cell (World.block_lt_of_cell? w _ hx227_1)).trans hx227_1
                        have HR227_1 := Aside0.mk hi227_1
                        have HC227_1 := Aside0.mk hl227_1
                        clear hi227_1 hl227_1
                        replace p227 := eq_true p227
                        replace q227 := eq_true q227
                        have ea_ := Option.some.inj (hx225_1.symm.trans hx227_1)
                        injection ea_ with ea_ en_ ec_
                        subst ea_
                        subst ec_
                        clear en_
                        go_wp2_with (first | (go_at_call 27; (with_reducible refine (depotlaw21_texts.calls k2 _ _ ((rd_T66 l0_2 x31_2).f1) _ _ ((rd_T66 l1_2 x31_2).f1) true _ ?side1 ?side2 ?side3 ?side4 A26.out).mono ?_); (case side1 => repeat (first | exact (Kd.C_below HR226_1.out HB.out) | (with_reducible refine Kd.C_alloc ?_ _) | (with_reducible refine Kd.C_drewN ?_ _) | (with_reducible refine Kd.C_drew ?_))); (case side2 => exact HC226_1.out); (case side3 => repeat (first | exact (Kd.C_below HR227_1.out HB.out) | (with_reducible refine Kd.C_alloc ?_ _) | (with_reducible refine Kd.C_drewN ?_ _) | (with_reducible refine Kd.C_drew ?_))); (case side4 => exact HC227_1.out); rintro e w' ⟨rfl, ⟨nd, rfl⟩⟩; (try first | exact ⟨rfl, _, World.drewN_drewN _ _ _⟩ | exact ⟨rfl, _, Eq.trans (World.drewN_drewN _ _ _) (congrArg (World.drewN _) (Nat.add_assoc _ _ _))⟩)))
                        repeat (go_quiet (first | (go_at_call 27; (with_reducible refine (depotlaw21_texts.calls k2 _ _ ((rd_T66 l0_2 x31_2).f1) _ _ ((rd_T66 l1_2 x31_2).f1) true _ ?side1 ?side2 ?side3 ?side4 A26.out).mono ?_); (case side1 => repeat (first | exact (Kd.C_below HR226_1.out HB.out) | (with_reducible refine Kd.C_alloc ?_ _) | (with_reducible refine Kd.C_drewN ?_ _) | (with_reducible refine Kd.C_drew ?_))); (case side2 => exact HC226_1.out); (case side3 => repeat (first | exact (Kd.C_below HR227_1.out HB.out) | (with_reducible refine Kd.C_alloc ?_ _) | (with_reducible refine Kd.C_drewN ?_ _) | (with_reducible refine Kd.C_drew ?_))); (case side4 => exact HC227_1.out); rintro e w' ⟨rfl, ⟨nd, rfl⟩⟩; (try first | exact ⟨rfl, _, World.drewN_drewN _ _ _⟩ | exact ⟨rfl, _, Eq.trans (World.drewN_drewN _ _ _) (congrArg (World.drewN _) (Nat.add_assoc _ _ _))⟩))); try go_wp2_with (first | (go_at_call 27; (with_reducible refine (depotlaw21_texts.calls k2 _ _ ((rd_T66 l0_2 x31_2).f1) _ _ ((rd_T66 l1_2 x31_2).f1) true _ ?side1 ?side2 ?side3 ?side4 A26.out).mono ?_); (case side1 => repeat (first | exact (Kd.C_below HR226_1.out HB.out) | (with_reducible refine Kd.C_alloc ?_ _) | (with_reducible refine Kd.C_drewN ?_ _) | (with_reducible refine Kd.C_drew ?_))); (case side2 => exact HC226_1.out); (case side3 => repeat (first | exact (Kd.C_below HR227_1.out HB.out) | (with_reducible refine Kd.C_alloc ?_ _) | (with_reducible refine Kd.C_drewN ?_ _) | (with_reducible refine Kd.C_drew ?_))); (case side4 => exact HC227_1.out); rintro e w' ⟨rfl, ⟨nd, rfl⟩⟩; (try first | exact ⟨rfl, _, World.drewN_drewN _ _ _⟩ | exact ⟨rfl, _, Eq.trans (World.drewN_drewN _ _ _) (congrArg (World.drewN _) (Nat.add_assoc _ _ _))⟩))))
                        go_roundg k2
                        case measure => have := HJ2.out; have := HK2.out; omega
                        case rel => exact ⟨(wrap64 (x31_2 + 1)), (by first | rfl | (simp; done) | (simp [*]; done)), H', ⟨by have := HJ2.out; have := HK2.out; omega⟩, ⟨by (with_reducible repeat (first | refine blk_drewN ?_ _ | refine blk_drew ?_ | refine blk_alloc ?_ _)); exact BK221.out⟩, ⟨by (with_reducible repeat (first | refine blk_drewN ?_ _ | refine blk_drew ?_ | refine blk_alloc ?_ _)); exact BK222.out⟩, ⟨by repeat (first | (with_reducible first | exact HB.out | apply below_alloc | apply pw_below_drewN | apply below_drew1 | refine below_set ?_ GE221.out | refine below_set ?_ GE222.out) | exact HB.out)⟩⟩
                      · replace c27 := Bool.eq_false_iff.mpr c27
                        subst c27
                        have H1 : (some false) = some r := by rw [if_neg (show ¬ (false = true) by decide)] at H; exact H
                        clear H
                        have H := H1
                        clear H1
                        obtain rfl := Option.some.inj H
                        have hnb31 := NB221_222.out
                        have hnc31 := NB222_221.out
                        have hcz32_0 : wr.cell? ⟨gb221, 0, none⟩ = some (.string a0_0) := (blk_cell BK221.out 0).trans rfl
                        have hcz32_1 : wr.cell? ⟨gb221, 1, none⟩ = some (.slice A0_1 l0_1.length c0_1) := (blk_cell BK221.out 1).trans rfl
                        have hcz32_2 : wr.cell? ⟨gb221, 2, none⟩ = some (.slice A0_2 l0_2.length c0_2) := (blk_cell BK221.out 2).trans rfl
                        have hfz32_0 := blk_frozen BK221.out 0
                        have hfz32_1 := blk_frozen BK221.out 1
                        have hfz32_2 := blk_frozen BK221.out 2
                        have p224 : 0 ≤ (x31_2 : Int) := of_decide_eq_true (by first | (with_reducible assumption) | assumption)
                        have q224 : x31_2 < (l0_2.length : Int) := of_decide_eq_true (by first | (with_reducible assumption) | assumption)
                        obtain ⟨ad224, A224_1, c224_1, e224, hx224_0, hx224_1, hl224_1, hi224_1⟩ := at_T66 HR0_2.out x31_2 p224 q224
                        cases e224
                        replace hx224_0 := (HB.out.cell (World.block_lt_of_cell? w _ hx224_0)).trans hx224_0
                        replace hx224_1 := (HB.out.cell (World.block_lt_of_cell? w _ hx224_1)).trans hx224_1
                        have HR224_1 := Aside0.mk hi224_1
                        have HC224_1 := Aside0.mk hl224_1
                        clear hi224_1 hl224_1
                        replace p224 := eq_true p224
                        replace q224 := eq_true q224
                        have hcz33_0 : wr.cell? ⟨gb222, 0, none⟩ = some (.string a1_0) := (blk_cell BK222.out 0).trans rfl
                        have hcz33_1 : wr.cell? ⟨gb222, 1, none⟩ = some (.slice A1_1 l1_1.length c1_1) := (blk_cell BK222.out 1).trans rfl
                        have hcz33_2 : wr.cell? ⟨gb222, 2, none⟩ = some (.slice A1_2 l1_2.length c1_2) := (blk_cell BK222.out 2).trans rfl
                        have hfz33_0 := blk_frozen BK222.out 0
                        have hfz33_1 := blk_frozen BK222.out 1
                        have hfz33_2 := blk_frozen BK222.out 2
                        have p225 : 0 ≤ (x31_2 : Int) := of_decide_eq_true (by first | (with_reducible assumption) | assumption)
                        have q225 : x31_2 < (l1_2.length : Int) := of_decide_eq_true (by first | (with_reducible assumption) | assumption)
                        obtain ⟨ad225, A225_1, c225_1, e225, hx225_0, hx225_1, hl225_1, hi225_1⟩ := at_T66 HR1_2.out x31_2 p225 q225
                        cases e225
                        replace hx225_0 := (HB.out.cell (World.block_lt_of_cell? w _ hx225_0)).trans hx225_0
                        replace hx225_1 := (HB.out.cell (World.block_lt_of_cell? w _ hx225_1)).trans hx225_1
                        have HR225_1 := Aside0.mk hi225_1
                        have HC225_1 := Aside0.mk hl225_1
                        clear hi225_1 hl225_1
                        replace p225 := eq_true p225
                        replace q225 := eq_true q225
                        have p226 : 0 ≤ (x31_2 : Int) := of_decide_eq_true (by first | (with_reducible assumption) | assumption)
                        have q226 : x31_2 < (l0_2.length : Int) := of_decide_eq_true (by first | (with_reducible assumption) | assumption)
                        obtain ⟨ad226, A226_1, c226_1, e226, hx226_0, hx226_1, hl226_1, hi226_1⟩ := at_T66 HR0_2.out x31_2 p226 q226
                        obtain rfl : ad224 = ad226 := (by injection e226)
                        replace hx226_0 := (HB.out.cell (World.block_lt_of_cell? w _ hx226_0)).trans hx226_0
                        replace hx226_1 := (HB.out.cell (World.block_lt_of_cell? w _ hx226_1)).trans hx226_1
                        have HR226_1 := Aside0.mk hi226_1
                        have HC226_1 := Aside0.mk hl226_1
                        clear hi226_1 hl226_1
                        replace p226 := eq_true p226
                        replace q226 := eq_true q226
                        have ea_ := Option.some.inj (hx224_1.symm.trans hx226_1)
                        injection ea_ with ea_ en_ ec_
                        subst ea_
                        subst ec_
                        clear en_
                        have p227 : 0 ≤ (x31_2 : Int) := of_decide_eq_true (by first | (with_reducible assumption) | assumption)
                        have q227 : x31_2 < (l1_2.length : Int) := of_decide_eq_true (by first | (with_reducible assumption) | assumption)
                        obtain ⟨ad227, A227_1, c227_1, e227, hx227_0, hx227_1, hl227_1, hi227_1⟩ := at_T66 HR1_2.out x31_2 p227 q227
                        obtain rfl : ad225 = ad227 := (by injection e227)
                        replace hx227_0 := (HB.out.cell (World.block_lt_of_cell? w _ hx227_0)).trans hx227_0
                        replace hx227_1 := (HB.out.cell (World.block_lt_of_cell? w _ hx227_1)).trans hx227_1
                        have HR227_1 := Aside0.mk hi227_1
                        have HC227_1 := Aside0.mk hl227_1
                        clear hi227_1 hl227_1
                        replace p227 := eq_true p227
                        replace q227 := eq_true q227
                        have ea_ := Option.some.inj (hx225_1.symm.trans hx227_1)
                        injection ea_ with ea_ en_ ec_
                        subst ea_
                        subst ec_
                        clear en_
                        go_wp2_with (first | (go_at_call 27; (with_reducible refine (depotlaw21_texts.calls k2 _ _ ((rd_T66 l0_2 x31_2).f1) _ _ ((rd_T66 l1_2 x31_2).f1) false _ ?side1 ?side2 ?side3 ?side4 A26.out).mono ?_); (case side1 => repeat (first | exact (Kd.C_below HR226_1.out HB.out) | (with_reducible refine Kd.C_alloc ?_ _) | (with_reducible refine Kd.C_drewN ?_ _) | (with_reducible refine Kd.C_drew ?_))); (case side2 => exact HC226_1.out); (case side3 => repeat (first | exact (Kd.C_below HR227_1.out HB.out) | (with_reducible refine Kd.C_alloc ?_ _) | (with_reducible refine Kd.C_drewN ?_ _) | (with_reducible refine Kd.C_drew ?_))); (case side4 => exact HC227_1.out); rintro e w' ⟨rfl, ⟨nd, rfl⟩⟩; (try first | exact ⟨rfl, _, World.drewN_drewN _ _ _⟩ | exact ⟨rfl, _, Eq.trans (World.drewN_drewN _ _ _) (congrArg (World.drewN _) (Nat.add_assoc _ _ _))⟩)))
                        repeat (go_quiet (first | (go_at_call 27; (with_reducible refine (depotlaw21_texts.calls k2 _ _ ((rd_T66 l0_2 x31_2).f1) _ _ ((rd_T66 l1_2 x31_2).f1) false _ ?side1 ?side2 ?side3 ?side4 A26.out).mono ?_); (case side1 => repeat (first | exact (Kd.C_below HR226_1.out HB.out) | (with_reducible refine Kd.C_alloc ?_ _) | (with_reducible refine Kd.C_drewN ?_ _) | (with_reducible refine Kd.C_drew ?_))); (case side2 => exact HC226_1.out); (case side3 => repeat (first | exact (Kd.C_below HR227_1.out HB.out) | (with_reducible refine Kd.C_alloc ?_ _) | (with_reducible refine Kd.C_drewN ?_ _) | (with_reducible refine Kd.C_drew ?_))); (case side4 => exact HC227_1.out); rintro e w' ⟨rfl, ⟨nd, rfl⟩⟩; (try first | exact ⟨rfl, _, World.drewN_drewN _ _ _⟩ | exact ⟨rfl, _, Eq.trans (World.drewN_drewN _ _ _) (congrArg (World.drewN _) (Nat.add_assoc _ _ _))⟩))); try go_wp2_with (first | (go_at_call 27; (with_reducible refine (depotlaw21_texts.calls k2 _ _ ((rd_T66 l0_2 x31_2).f1) _ _ ((rd_T66 l1_2 x31_2).f1) false _ ?side1 ?side2 ?side3 ?side4 A26.out).mono ?_); (case side1 => repeat (first | exact (Kd.C_below HR226_1.out HB.out) | (with_reducible refine Kd.C_alloc ?_ _) | (with_reducible refine Kd.C_drewN ?_ _) | (with_reducible refine Kd.C_drew ?_))); (case side2 => exact HC226_1.out); (case side3 => repeat (first | exact (Kd.C_below HR227_1.out HB.out) | (with_reducible refine Kd.C_alloc ?_ _) | (with_reducible refine Kd.C_drewN ?_ _) | (with_reducible refine Kd.C_drew ?_))); (case side4 => exact HC227_1.out); rintro e w' ⟨rfl, ⟨nd, rfl⟩⟩; (try first | exact ⟨rfl, _, World.drewN_drewN _ _ _⟩ | exact ⟨rfl, _, Eq.trans (World.drewN_drewN _ _ _) (congrArg (World.drewN _) (Nat.add_assoc _ _ _))⟩))))
                        go_ret
                        exact ⟨by first | rfl | (simp [errW_none, errW_some] <;> rfl) | (simp [*, errW_none, errW_some] <;> rfl), by repeat (first | (with_reducible first | exact HB.out | apply below_alloc | apply pw_below_drewN | apply below_drew1 | refine below_set ?_ GE221.out | refine below_set ?_ GE222.out) | exact HB.out)⟩
                    · rw [if_neg c25] at H
                      have c25b0 : (((rd_T66 l0_2 x31_2).f0).toList == ((rd_T66 l1_2 x31_2).f0).toList) = false := beq_eq_false_iff_ne.mpr c25
                      have c25b1 : (((rd_T66 l0_2 x31_2).f0).toList != ((rd_T66 l1_2 x31_2).f0).toList) = true := bne_iff_ne.mpr c25
                      obtain rfl := Option.some.inj H
                      have hnb34 := NB221_222.out
                      have hnc34 := NB222_221.out
                      have hcz35_0 : wr.cell? ⟨gb221, 0, none⟩ = some (.string a0_0) := (blk_cell BK221.out 0).trans rfl
                      have hcz35_1 : wr.cell? ⟨gb221, 1, none⟩ = some (.slice A0_1 l0_1.length c0_1) := (blk_cell BK221.out 1).trans rfl
                      have hcz35_2 : wr.cell? ⟨gb221, 2, none⟩ = some (.slice A0_2 l0_2.length c0_2) := (blk_cell BK221.out 2).trans rfl
                      have hfz35_0 := blk_frozen BK221.out 0
                      have hfz35_1 := blk_frozen BK221.out 1
                      have hfz35_2 := blk_frozen BK221.out 2
                      have p224 : 0 ≤ (x31_2 : Int) := of_decide_eq_true (by first | (with_reducible assumption) | assumption)
                      have q224 : x31_2 < (l0_2.length : Int) := of_decide_eq_true (by first | (with_reducible assumption) | assumption)
                      obtain ⟨ad224, A224_1, c224_1, e224, hx224_0, hx224_1, hl224_1, hi224_1⟩ := at_T66 HR0_2.out x31_2 p224 q224
                      cases e224
                      replace hx224_0 := (HB.out.cell (World.block_lt_of_cell? w _ hx224_0)).trans hx224_0
                      replace hx224_1 := (HB.out.cell (World.block_lt_of_cell? w _ hx224_1)).trans hx224_1
                      have HR224_1 := Aside0.mk hi224_1
                      have HC224_1 := Aside0.mk hl224_1
                      clear hi224_1 hl224_1
                      replace p224 := eq_true p224
                      replace q224 := eq_true q224
                      have hcz36_0 : wr.cell? ⟨gb222, 0, none⟩ = some (.string a1_0) := (blk_cell BK222.out 0).trans rfl
                      have hcz36_1 : wr.cell? ⟨gb222, 1, none⟩ = some (.slice A1_1 l1_1.length c1_1) := (blk_cell BK222.out 1).trans rfl
                      have hcz36_2 : wr.cell? ⟨gb222, 2, none⟩ = some (.slice A1_2 l1_2.length c1_2) := (blk_cell BK222.out 2).trans rfl
                      have hfz36_0 := blk_frozen BK222.out 0
                      have hfz36_1 := blk_frozen BK222.out 1
                      have hfz36_2 := blk_frozen BK222.out 2
                      have p225 : 0 ≤ (x31_2 : Int) := of_decide_eq_true (by first | (with_reducible assumption) | assumption)
                      have q225 : x31_2 < (l1_2.length : Int) := of_decide_eq_true (by first | (with_reducible assumption) | assumption)
                      obtain ⟨ad225, A225_1, c225_1, e225, hx225_0, hx225_1, hl225_1, hi225_1⟩ := at_T66 HR1_2.out x31_2 p225 q225
                      cases e225
                      replace hx225_0 := (HB.out.cell (World.block_lt_of_cell? w _ hx225_0)).trans hx225_0
                      replace hx225_1 := (HB.out.cell (World.block_lt_of_cell? w _ hx225_1)).trans hx225_1
                      have HR225_1 := Aside0.mk hi225_1
                      have HC225_1 := Aside0.mk hl225_1
                      clear hi225_1 hl225_1
                      replace p225 := eq_true p225
                      replace q225 := eq_true q225
                      go_wp2
                      repeat (go_quiet (fail); try go_wp2)
                      go_ret
                      exact ⟨by first | rfl | (simp [errW_none, errW_some] <;> rfl) | (simp [*, errW_none, errW_some] <;> rfl), by repeat (first | (with_reducible first | exact HB.out | apply below_alloc | apply pw_below_drewN | apply below_drew1 | refine below_set ?_ GE221.out | refine below_set ?_ GE222.out) | exact HB.out)⟩
                  · rw [if_neg c24] at H
                    exact absurd H (by simp)
                · rw [if_neg c23] at H
                  exact absurd H (by simp)
              · rw [if_neg c22] at H
                exact absurd H (by simp)
            · rw [if_neg c21] at H
              have c21b0 : decide (x31_2 < (l0_2.length : Int)) = false := decide_eq_false c21
              clear c21
              obtain rfl := Option.some.inj H
              go_wp2
              repeat (go_quiet (fail); try go_wp2)
              go_ret
              exact ⟨by first | rfl | (simp [errW_none, errW_some] <;> rfl) | (simp [*, errW_none, errW_some] <;> rfl), by repeat (first | (with_reducible first | exact HB.out | apply below_alloc | apply pw_below_drewN | apply below_drew1 | refine below_set ?_ GE221.out | refine below_set ?_ GE222.out) | exact HB.out)⟩

end Go.Proofs.Ytdkkgeibifpgiaa.Q
/- recipe.Same, slices.EqualFunc over steps; the law's own texts, alike: what they compute, and their contracts. -/
namespace Go.Proofs.Ytdkkgeibifpgiaa.Rc
open Go.RowKit Go.Proofs.YtdkkgeibifpgiaaW.PrintWords Go.Proofs.YtdkkgeibifpgiaaW.PrintLast Go.Proofs.YtdkkgeibifpgiaaW.PrintMore Go.Proofs.Ytdkkgeibifpgiaa.Bytes Go.Proofs.Ytdkkgeibifpgiaa.Q
set_option linter.unusedVariables false
set_option linter.unusedSimpArgs false

instance : DecidableEq S47 := fun a b => decidable_of_iff (a.f0 = b.f0 ∧ a.f1 = b.f1) ⟨fun h => by obtain ⟨a0, a1⟩ := a; obtain ⟨b0, b1⟩ := b; obtain ⟨h1, h2⟩ := h; simp only at h1 h2; rw [h1, h2], fun h => by rw [h]; exact ⟨rfl, rfl⟩⟩
instance : DecidableEq S66 := fun a b => decidable_of_iff (a.f0 = b.f0 ∧ a.f1 = b.f1) ⟨fun h => by obtain ⟨a0, a1⟩ := a; obtain ⟨b0, b1⟩ := b; obtain ⟨h1, h2⟩ := h; simp only at h1 h2; rw [h1, h2], fun h => by rw [h]; exact ⟨rfl, rfl⟩⟩
theorem cons_yes {α : Type} [DecidableEq α] {a b : α} {l m : List α} (h : a = b) : decide (a :: l = b :: m) = decide (l = m) := by
  rw [decide_eq_decide, List.cons.injEq]
  exact ⟨fun h => h.2, fun k => ⟨h, k⟩⟩
theorem cons_no {α : Type} [DecidableEq α] {a b : α} {l m : List α} (h : ¬ a = b) : decide (a :: l = b :: m) = false := decide_eq_false (fun k => h (List.cons.inj k).1)
theorem tl_eq (a b : ByteArray) : a.toList = b.toList ↔ a = b := by rw [toList_bs, toList_bs, bs_eq_iff]
theorem drop_eq {α : Type} (xs : List α) (i : Nat) (h : i < xs.length) : xs.drop i = xs[i] :: xs.drop (i + 1) := List.drop_eq_getElem_cons h
theorem eq_law (xs ys : List ByteArray) (hl : xs.length = ys.length) (hx : xs.length ≤ 1099511627776) : ∀ (d i k : Nat), i + d = xs.length → d < k →
    slices_Equal_string_string.l0 k xs ys (xs.length : Int) (i : Int) = some (decide (xs.drop i = ys.drop i))
  | d, i, 0, hid, hk => by omega
  | 0, i, k + 1, hid, hk => by
    rw [slices_Equal_string_string.l0, if_neg (by omega), List.drop_of_length_le (by omega), List.drop_of_length_le (by omega)]
    rfl
  | d + 1, i, k + 1, hid, hk => by
    have h1 : i < xs.length := by omega
    have h2 : i < ys.length := by omega
    rw [slices_Equal_string_string.l0, if_pos (by omega), if_pos (by omega), if_pos (by omega), if_pos (by omega), rd_at xs i h1, rd_at ys i h2, wrap_up i (by omega), eq_law xs ys hl hx d (i + 1) k (by omega) (by omega), drop_eq xs i h1, drop_eq ys i h2]
    by_cases e : xs[i] = ys[i]
    · rw [if_pos ((tl_eq _ _).2 e), cons_yes e]
    · rw [if_neg (fun h => e ((tl_eq _ _).1 h)), cons_no e]
theorem eq_f (xs ys : List ByteArray) (hx : xs.length ≤ 1099511627776) (k : Nat) (hk : 1099511627780 ≤ k) : slices_Equal_string_string.f k xs ys = some (decide (xs = ys)) := by
  unfold slices_Equal_string_string.f
  by_cases e : xs.length = ys.length
  · rw [if_pos (by omega)]
    exact eq_law xs ys e hx xs.length 0 k (by omega) (by omega)
  · rw [if_neg (by omega), decide_eq_false (fun h => e (by rw [h]))]
theorem texts_law (xs ys : List ByteArray) (hl : xs.length = ys.length) (hx : xs.length ≤ 1099511627776) : ∀ (d i k : Nat), i + d = xs.length → d < k →
    depotlaw21_texts.l0 k xs ys (xs.length : Int) (i : Int) = some (decide (xs.drop i = ys.drop i))
  | d, i, 0, hid, hk => by omega
  | 0, i, k + 1, hid, hk => by
    rw [depotlaw21_texts.l0, if_neg (by omega), List.drop_of_length_le (by omega), List.drop_of_length_le (by omega)]
    rfl
  | d + 1, i, k + 1, hid, hk => by
    have h1 : i < xs.length := by omega
    have h2 : i < ys.length := by omega
    rw [depotlaw21_texts.l0, if_pos (by omega), if_pos (by omega), if_pos (by omega), if_pos (by omega), rd_at xs i h1, rd_at ys i h2, wrap_up i (by omega), texts_law xs ys hl hx d (i + 1) k (by omega) (by omega), drop_eq xs i h1, drop_eq ys i h2]
    by_cases e : xs[i] = ys[i]
    · rw [if_pos ((tl_eq _ _).2 e), cons_yes e]
    · rw [if_neg (fun h => e ((tl_eq _ _).1 h)), cons_no e]
theorem texts_f (xs ys : List ByteArray) (hx : xs.length ≤ 1099511627776) (k : Nat) (hk : 1099511627780 ≤ k) : depotlaw21_texts.f k xs ys = some (decide (xs = ys)) := by
  unfold depotlaw21_texts.f
  by_cases e : xs.length = ys.length
  · rw [if_pos (by omega)]
    exact texts_law xs ys e hx xs.length 0 k (by omega) (by omega)
  · rw [if_neg (by omega), decide_eq_false (fun h => e (by rw [h]))]
theorem same1_f (x y : S47) (hx : x.f1.length ≤ 1099511627776) (k : Nat) (hk : 1099511627780 ≤ k) : recipe_Same_1.f k x.f0 x.f1 y.f0 y.f1 = some (decide (x = y)) := by
  obtain ⟨a, b⟩ := x
  obtain ⟨c, d⟩ := y
  unfold recipe_Same_1.f
  by_cases e : a = c
  · rw [if_pos ((tl_eq _ _).2 e), eq_f b d hx k hk]
    simp [e]
  · rw [if_neg (fun h => e ((tl_eq _ _).1 h))]
    simp [e]
theorem rd_step66 (xs : List S66) (i : Nat) (h : i < xs.length) : rd_T66 xs (i : Int) = xs[i] := by
  simp [rd_T66, List.getD_eq_getElem?_getD, List.getElem?_eq_getElem h]
theorem alike_law (xs ys : List S66) (hl : xs.length = ys.length) (hx : xs.length ≤ 1099511627776) (ha : ∀ x ∈ xs, x.f1.length ≤ 1099511627776) (n1 n2 : ByteArray) (d1 d2 : List ByteArray) : ∀ (d i k : Nat), i + d = xs.length → d + 1099511627790 ≤ k →
    depotlaw21_alike.l0 k (xs.length : Int) (i : Int) n1 d1 xs n2 d2 ys = some (decide (xs.drop i = ys.drop i))
  | d, i, 0, hid, hk => by omega
  | 0, i, k + 1, hid, hk => by
    rw [depotlaw21_alike.l0, if_neg (by omega), List.drop_of_length_le (by omega), List.drop_of_length_le (by omega)]
    rfl
  | d + 1, i, k + 1, hid, hk => by
    have h1 : i < xs.length := by omega
    have h2 : i < ys.length := by omega
    rw [depotlaw21_alike.l0, if_pos (by omega), if_pos (by omega), if_pos (by omega), if_pos (by omega), rd_step66 xs i h1, rd_step66 ys i h2, wrap_up i (by omega), alike_law xs ys hl hx ha n1 n2 d1 d2 d (i + 1) k (by omega) (by omega), drop_eq xs i h1, drop_eq ys i h2, texts_f _ _ (ha _ (List.getElem_mem h1)) k (by omega)]
    generalize xs[i] = x
    generalize ys[i] = y
    obtain ⟨a, b⟩ := x
    obtain ⟨c, d⟩ := y
    by_cases e : a = c
    · rw [if_pos ((tl_eq _ _).2 e), Option.bind_some]
      by_cases e2 : b = d
      · rw [if_pos (decide_eq_true e2), cons_yes (by rw [e, e2])]
      · rw [if_neg (by simp [e2]), cons_no (fun h => e2 (congrArg S66.f1 h))]
    · rw [if_neg (fun h => e ((tl_eq _ _).1 h)), cons_no (fun h => e (congrArg S66.f0 h))]
theorem alike_f (n1 n2 : ByteArray) (d1 d2 : List ByteArray) (xs ys : List S66) (hd : d1.length ≤ 1099511627776) (hx : xs.length ≤ 1099511627776) (ha : ∀ x ∈ xs, x.f1.length ≤ 1099511627776) (k : Nat) (hk : 4398046511104 ≤ k) :
    depotlaw21_alike.f k n1 d1 xs n2 d2 ys = some (decide (n1 = n2 ∧ d1 = d2 ∧ xs = ys)) := by
  obtain ⟨k', rfl⟩ : ∃ k', k = k' + 1 := ⟨k - 1, by omega⟩
  have hj : ∀ b : Bool, depotlaw21_alike.j0 (k' + 1) b n1 d1 xs n2 d2 ys = if b = true then some false else depotlaw21_alike.l0 k' (xs.length : Int) 0 n1 d1 xs n2 d2 ys := fun b => by rw [depotlaw21_alike.j0]
  unfold depotlaw21_alike.f
  simp only [hj]
  by_cases e : n1 = n2
  · rw [if_pos ((tl_eq _ _).2 e), texts_f d1 d2 hd _ (by omega), Option.bind_some]
    by_cases e2 : d1 = d2
    · rw [if_pos (decide_eq_true e2)]
      by_cases e3 : xs.length = ys.length
      · rw [if_neg (by simp [e3])]
        have := alike_law xs ys e3 hx ha n1 n2 d1 d2 xs.length 0 k' (by omega) (by omega)
        rw [show ((0 : Nat) : Int) = 0 from rfl] at this
        rw [this]
        simp [e, e2]
      · rw [if_pos (by simpa using (show ¬ (xs.length : Int) = (ys.length : Int) from by omega)), decide_eq_false (fun h => e3 (by rw [h.2.2]))]
    · rw [if_neg (by simp [e2]), if_pos trivial, decide_eq_false (fun h => e2 h.2.1)]
  · rw [if_neg (fun h => e ((tl_eq _ _).1 h)), if_pos trivial, decide_eq_false (fun h => e h.1)]
theorem alike_calls (n1 : ByteArray) (A1 : Option Addr) (c1 : Nat) (d1 : List ByteArray) (A2 : Option Addr) (c2 : Nat) (xs : List S66) (n2 : ByteArray) (A3 : Option Addr) (c3 : Nat) (d2 : List ByteArray) (A4 : Option Addr) (c4 : Nat) (ys : List S66) (w : World)
    (h1 : Kd.C Kd.string w A1 d1.length d1) (hc1 : d1.length ≤ c1) (h2 : Kd.C k66 w A2 xs.length xs) (hc2 : xs.length ≤ c2) (h3 : Kd.C Kd.string w A3 d2.length d2) (hc3 : d2.length ≤ c3) (h4 : Kd.C k66 w A4 ys.length ys) (hc4 : ys.length ≤ c4) (hd : d1.length ≤ 1099511627776) (hx : xs.length ≤ 1099511627776) (ha : ∀ x ∈ xs, x.f1.length ≤ 1099511627776) :
    Calls Try.prog 11 #[.agg #[.string n1, .slice A1 d1.length c1, .slice A2 xs.length c2], .agg #[.string n2, .slice A3 d2.length c3, .slice A4 ys.length c4]] w fun e w' => e = .returned (.bool (decide (n1 = n2 ∧ d1 = d2 ∧ xs = ys))) ∧ Below w.heap.size w w' :=
  depotlaw21_alike.calls 4398046511104 n1 A1 c1 d1 A2 c2 xs n2 A3 c3 d2 A4 c4 ys _ w h1 hc1 h2 hc2 h3 hc3 h4 hc4 (alike_f n1 n2 d1 d2 xs ys hd hx ha _ (Nat.le_refl _))
/-- What EqualFunc has seen up to round i. -/
def SameTo (xs ys : List S47) (i : Nat) : Prop := xs.take i = ys.take i
theorem sameTo_succ {xs ys : List S47} {i : Nat} (h : SameTo xs ys i) (h1 : i < xs.length) (h2 : i < ys.length) (e : xs[i] = ys[i]) : SameTo xs ys (i + 1) := by
  unfold SameTo at h ⊢
  rw [List.take_succ_eq_append_getElem h1, List.take_succ_eq_append_getElem h2, h, e]
set_option maxRecDepth 100000 in
set_option maxHeartbeats 4000000 in
theorem eqf_calls (A0 : Option Addr) (c0 : Nat) (xs : List S47) (A1 : Option Addr) (c1 : Nat) (ys : List S47) (w : World) (h0 : Kd.C k47 w A0 xs.length xs) (h1 : Kd.C k47 w A1 ys.length ys) (hx : xs.length ≤ 1099511627776) (ha : ∀ x ∈ xs, x.f1.length ≤ 1099511627776) :
    Calls Try.prog 32 #[.slice A0 xs.length c0, .slice A1 ys.length c1, .func (.func 33) #[] #[]] w fun e w' => e = .returned (.bool (decide (xs = ys))) ∧ Below w.heap.size w w' := by
  obtain ⟨n, hn⟩ : ∃ n, xs.length = n := ⟨_, rfl⟩
  by_cases hl : xs.length = ys.length
  · have hny : ys.length = n := by rw [← hl, hn]
    have H0 := Aside0.mk h0
    have H1 := Aside0.mk h1
    have HA := Aside0.mk ha
    have HN := Aside0.mk hn
    have HY := Aside0.mk hny
    have HB0 := Aside0.mk (Below.refl w.heap.size w)
    have HS0 : Aside0 (SameTo xs ys 0) := ⟨by unfold SameTo; rfl⟩
    have hn2 : n ≤ 1099511627776 := by omega
    have hu47 := Try.underlying47
    rw [hn, hny]
    clear h0 h1 ha hn hny hx hl
    go_enter Try.func32, Try.ntmps32
    go_wp2
    go_loopg [17] n (fun g v17 wx => ∃ i : Nat, i + g = n ∧ v17 = .int .i64 (i : Int) ∧ Aside0 (SameTo xs ys i) ∧ Aside0 (Below w.heap.size w wx))
    case atStart => exact ⟨0, by omega, rfl, HS0, HB0⟩
    case round =>
      clear HB0 HS0
      obtain ⟨i, hig, rfl, HS, HB⟩ := hrel
      cases gk with
      | zero =>
        obtain rfl : i = n := by omega
        have d1 : decide ((i : Int) < (i : Int)) = false := decide_eq_false (by omega)
        go_wp2
        go_ret
        refine ⟨?_, HB.out⟩
        have hs : xs.take i = ys.take i := HS.out
        rw [List.take_of_length_le (by rw [HN.out]; exact Nat.le_refl _), List.take_of_length_le (by rw [HY.out]; exact Nat.le_refl _)] at hs
        rw [hs]
        simp
      | succ k1 =>
        have hi : i < n := by omega
        have d1 : decide ((i : Int) < (n : Int)) = true := decide_eq_true (by omega)
        have i1 : i < xs.length := by rw [HN.out]; exact hi
        have i2 : i < ys.length := by rw [HY.out]; exact hi
        obtain ⟨adx, Ax, cx, ex, hx0, hx1, hxl, hxr⟩ := at_T47 (Kd.C_below H0.out HB.out) (i : Int) (by omega) (by omega)
        obtain ⟨ady, Ay, cy, ey, hy0, hy1, hyl, hyr⟩ := at_T47 (Kd.C_below H1.out HB.out) (i : Int) (by omega) (by omega)
        cases ex
        cases ey
        simp only [Int.toNat_natCast] at hx0 hx1 hy0 hy1
        rw [rd_step xs i i1] at hx0 hx1 hxl hxr
        rw [rd_step ys i i2] at hy0 hy1 hyl hyr
        have hm := HA.out _ (List.getElem_mem i1)
        obtain ⟨x, hxe⟩ : ∃ x, xs[i] = x := ⟨_, rfl⟩
        obtain ⟨y, hye⟩ : ∃ y, ys[i] = y := ⟨_, rfl⟩
        have HX := Aside0.mk (show ∀ h : i < xs.length, xs[i] = x from fun _ => hxe)
        have HYY := Aside0.mk (show ∀ h : i < ys.length, ys[i] = y from fun _ => hye)
        rw [hxe] at hx0 hx1 hxl hxr hm
        rw [hye] at hy0 hy1 hyl hyr
        clear hxe hye i1 i2
        have p1 : (0 ≤ (i : Int)) = True := eq_true (by omega)
        have q1 : ((i : Int) < (n : Int)) = True := eq_true (by omega)
        have hy0' : ∀ o, (wr.alloc o).cell? (ady.add (i * 2)) = _ := fun o => pw_cell_below (below_alloc (Below.refl _ wr) o) hy0
        have hy1' : ∀ o, (wr.alloc o).cell? ⟨(ady.add (i * 2)).block, (ady.add (i * 2)).off + 1, none⟩ = _ := fun o => pw_cell_below (below_alloc (Below.refl _ wr) o) hy1
        have HXR := Aside0.mk hxr
        have HYR := Aside0.mk hyr
        have HXL := Aside0.mk hxl
        have HYL := Aside0.mk hyl
        have HM := Aside0.mk hm
        clear hxr hyr hxl hyl hm
        by_cases e : x = y
        · have HE := Aside0.mk e
          have hdec : decide (x = y) = true := decide_eq_true e
          clear e
          go_wp2_with (go_at_call 33; generalize hW4 : World.alloc (World.alloc wr _) _ = w4; have hb4 : Below wr.heap.size wr w4 := (by rw [← hW4]; exact ((Below.refl _ _).alloc (Nat.le_refl _) _).alloc (by simp) _); have hcl := recipe_Same_1.calls 1099511627780 x.f0 Ax cx x.f1 y.f0 Ay cy y.f1 _ w4 (Kd.C_below HXR.out hb4) HXL.out (Kd.C_below HYR.out hb4) HYL.out (same1_f x y HM.out _ (Nat.le_refl _)); rw [hdec] at hcl; refine hcl.mono ?_; rintro e w5 ⟨rfl, hb5⟩; have HB5 := Aside0.mk (HB.out.trans ((hb4.trans (hb5.mono hb4.size)).mono HB.out.size)); clear hb5 hb4 hW4 hcl)
          go_roundg k1
          case measure => omega
          case rel => exact ⟨i + 1, by omega, by go_num, ⟨sameTo_succ HS.out (by rw [HN.out]; exact hi) (by rw [HY.out]; exact hi) (by rw [HX.out, HYY.out, HE.out])⟩, HB5⟩
        · have HE := Aside0.mk e
          have hdec : decide (x = y) = false := decide_eq_false e
          clear e
          go_wp2_with (go_at_call 33; generalize hW4 : World.alloc (World.alloc wr _) _ = w4; have hb4 : Below wr.heap.size wr w4 := (by rw [← hW4]; exact ((Below.refl _ _).alloc (Nat.le_refl _) _).alloc (by simp) _); have hcl := recipe_Same_1.calls 1099511627780 x.f0 Ax cx x.f1 y.f0 Ay cy y.f1 _ w4 (Kd.C_below HXR.out hb4) HXL.out (Kd.C_below HYR.out hb4) HYL.out (same1_f x y HM.out _ (Nat.le_refl _)); rw [hdec] at hcl; refine hcl.mono ?_; rintro e w5 ⟨rfl, hb5⟩; have HB5 := Aside0.mk (HB.out.trans ((hb4.trans (hb5.mono hb4.size)).mono HB.out.size)); clear hb5 hb4 hW4 hcl)
          go_ret
          refine ⟨?_, HB5.out⟩
          rw [decide_eq_false (fun h : xs = ys => HE.out (by have h1 := HX.out (by rw [HN.out]; exact hi); have h2 := HYY.out (by rw [HY.out]; exact hi); rw [← h1, ← h2]; simp [h]))]
          rfl
  · have hne : ¬ xs = ys := fun h => hl (by rw [h])
    have c1 : ((xs.length : Int) != (ys.length : Int)) = true := bne_iff_ne.mpr (by omega)
    rw [decide_eq_false hne]
    clear hne hn
    go_enter Try.func32, Try.ntmps32
    go_wp2
    go_ret
    exact ⟨rfl, Below.refl _ _⟩
end Go.Proofs.Ytdkkgeibifpgiaa.Rc
/- The law's plain, walked: a recipe that is read, as the document's; the lists are shared. -/
namespace Go.Proofs.Ytdkkgeibifpgiaa.Rc
open Go.RowKit Go.Proofs.YtdkkgeibifpgiaaW.PrintWords Go.Proofs.YtdkkgeibifpgiaaW.PrintLast Go.Proofs.YtdkkgeibifpgiaaW.PrintMore Go.Proofs.Ytdkkgeibifpgiaa.Bytes Go.Proofs.Ytdkkgeibifpgiaa.Q
set_option linter.unusedVariables false
set_option linter.unusedSimpArgs false

def toR (x : S47) : S66 := ⟨x.f0, x.f1⟩
theorem toR_inj {x y : S47} : toR x = toR y ↔ x = y := by
  obtain ⟨a, b⟩ := x
  obtain ⟨c, d⟩ := y
  simp [toR]
theorem map_toR {xs ys : List S47} : xs.map toR = ys.map toR ↔ xs = ys := by
  constructor
  · intro h
    induction xs generalizing ys with
    | nil => cases ys with
      | nil => rfl
      | cons y ys => simp at h
    | cons x xs ih => cases ys with
      | nil => simp at h
      | cons y ys =>
        rw [List.map_cons, List.map_cons, List.cons.injEq, toR_inj] at h
        rw [h.1, ih h.2]
  · intro h; rw [h]
/-- The cells of the steps so far: each tells a step, whose arguments can be read in the first world. -/
def RowOK (w : World) (xs : List S47) (rows : List (List Value)) : Prop := ∀ (j : Nat) (x : S47) (c : List Value), xs[j]? = some x → rows[j]? = some c → ∃ A1 c1, c = [.string x.f0, .slice A1 x.f1.length c1] ∧ x.f1.length ≤ c1 ∧ Kd.string.C w A1 x.f1.length x.f1
theorem RowOK.snoc {w : World} {xs : List S47} {rows : List (List Value)} (h : RowOK w xs rows) {x : S47} (hx : xs[rows.length]? = some x) {A1 : Option Addr} {c1 : Nat} (h1 : x.f1.length ≤ c1) (h2 : Kd.string.C w A1 x.f1.length x.f1) : RowOK w xs (rows ++ [[.string x.f0, .slice A1 x.f1.length c1]]) := by
  intro j y c hy hc
  rcases Nat.lt_or_ge j rows.length with hj | hj
  · rw [List.getElem?_append_left hj] at hc
    exact h j y c hy hc
  · have hlt : j < (rows ++ [[Value.string x.f0, .slice A1 x.f1.length c1]]).length := (List.getElem?_eq_some_iff.1 hc).1
    rw [List.length_append, List.length_singleton] at hlt
    obtain rfl : j = rows.length := by omega
    rw [List.getElem?_append_right (Nat.le_refl _), Nat.sub_self] at hc
    obtain rfl := Option.some.inj hc
    obtain rfl := Option.some.inj (hx.symm.trans hy)
    exact ⟨A1, c1, rfl, h1, h2⟩
theorem rows_C {w W : World} {A : Option Addr} {n : Nat} {xs : List S47} {rows : List (List Value)} (h : (Kd.raw 2).C W A n rows) (hb : Below w.heap.size w W) (hr : RowOK w xs rows) (hl : rows.length = xs.length) : k66.C W A n (xs.map toR) := by
  obtain ⟨h1, hm, hn⟩ := h
  refine ⟨by rw [List.length_map, ← hl]; exact h1, hm, fun hp => ?_⟩
  obtain ⟨ad, he, hcell⟩ := hn hp
  refine ⟨ad, he, fun j p hj => ?_⟩
  rw [List.getElem?_map] at hj
  obtain ⟨x, hx, rfl⟩ := Option.map_eq_some_iff.1 hj
  have hjl : j < rows.length := by rw [hl]; exact (List.getElem?_eq_some_iff.1 hx).1
  obtain ⟨c', hcl, hK, hcc⟩ := hcell j _ (List.getElem?_eq_getElem hjl)
  obtain ⟨A1, c1, e, g1, g2⟩ := hr j x _ hx (List.getElem?_eq_getElem hjl)
  refine ⟨c', hcl, ?_, hcc⟩
  have hK1 : c' = rows[j] := hK.1
  rw [hK1, e]
  exact k66_mk W (toR x) g1 (Kd.C_below g2 hb)
/-- What stands while plain works: its answer, its copy. -/
structure PlAt (h : Nat) (w W : World) (n1 : ByteArray) (dv u : Value) : Prop where
  res : W.heap[h + 1]? = some (.cells #[.string ⟨#[]⟩, .slice none 0 0, .slice none 0 0] 33 (0, 0))
  out : W.heap[h + 1 + 1]? = some (.cells #[.string n1, dv, u] 33 (0, 0))
  below : Below h w W
theorem PlAt.start (w : World) (n1 : ByteArray) (dv : Value) (o : Obj) : PlAt w.heap.size w (((w.alloc o).alloc (.cells #[.string ⟨#[]⟩, .slice none 0 0, .slice none 0 0] 33)).alloc (.cells #[.string n1, dv, .slice none 0 0] 33)) n1 dv (.slice none 0 0) := by
  have a1 : ∀ (W : World) (o : Obj), (W.alloc o).heap.size = W.heap.size + 1 := fun W o => Array.size_push _
  have a2 : ∀ (W : World) (o : Obj) (k : Nat), k < W.heap.size → (W.alloc o).heap[k]? = W.heap[k]? := fun W o k hk => ((Below.refl W.heap.size W).alloc (Nat.le_refl _) o).block k hk
  have a3 : ∀ (W : World) (o : Obj) (k : Nat), k = W.heap.size → (W.alloc o).heap[k]? = some o := fun W o k hk => by rw [hk]; exact World.alloc_heap_new W o
  refine ⟨?_, ?_, ?_⟩
  · rw [a2 _ _ _ (by simp only [a1]; omega), a3 _ _ _ (by simp only [a1])]
  · rw [a3 _ _ _ (by simp only [a1])]
  · exact (((Below.refl _ w).alloc (Nat.le_refl _) _).alloc (by simp only [a1]; omega) _).alloc (by simp only [a1]; omega) _
theorem info66r : (Try.prog.info? 66).map (fun i => (i.zero, i.size, i.bytes)) = some (some (.agg #[(.string ⟨#[]⟩), (.slice none 0 0)]), 2, 40) := by kernel_rfl
/-- A round: the new box, the append, the store. -/
theorem PlAt.round {h : Nat} {w W W1 : World} {n1 : ByteArray} {dv u v1 : Value} {rows : List (List Value)} (k : PlAt h w W n1 dv u) (hh : h + 1 + 1 < W.heap.size) (hb : Below (h + 1 + 1 + 1) W W1) (hr : (Kd.raw 2).R 66 W1 (h + 1 + 1 + 1) (fun _ => True) v1 rows) :
    PlAt h w (W1.setCell ⟨h + 1 + 1, 2, none⟩ v1) n1 dv v1 ∧ (Kd.raw 2).R 66 (W1.setCell ⟨h + 1 + 1, 2, none⟩ v1) (h + 1 + 1 + 1) (fun _ => True) v1 rows := by
  refine ⟨⟨?_, ?_, ?_⟩, ?_⟩
  · exact (Below.heap_setCell _ _ _ _ (by show h + 1 ≠ h + 1 + 1; omega)).trans ((hb.block _ (by omega)).trans k.res)
  · have := (hb.block (h + 1 + 1) (by omega)).trans k.out
    simp [World.setCell, Array.getElem?_modify, this]
  · exact below_set (k.below.trans (hb.mono (by omega))) _ _ (by show h ≤ h + 1 + 1; omega)
  · exact Kd.R_mono (Kd.R_far (Kd.R_bound hr) (fun q hq => by have := hq.2.1; show q ≠ h + 1 + 1; omega) v1) (fun _ _ => trivial)
set_option maxRecDepth 100000 in
set_option maxHeartbeats 8000000 in
theorem plain_calls (n1 : ByteArray) (A1 : Option Addr) (c1 : Nat) (d1 : List ByteArray) (A2 : Option Addr) (c2 : Nat) (xs : List S47) (w : World) (h2 : Kd.C k47 w A2 xs.length xs) (hx : xs.length ≤ 1099511627776) :
    Calls Try.prog 12 #[.agg #[.string n1, .slice A1 d1.length c1, .slice A2 xs.length c2]] w fun e w' => ∃ A3 c3, e = .returned (.agg #[.string n1, .slice A1 d1.length c1, .slice A3 (xs.map toR).length c3]) ∧ (xs.map toR).length ≤ c3 ∧ Kd.C k66 w' A3 (xs.map toR).length (xs.map toR) ∧ Below w.heap.size w w' := by
  have hu26 := Try.underlying26
  have hu33 := Try.underlying33
  have hu47 := Try.underlying47
  have hu66 := Try.underlying66
  obtain ⟨n, hn⟩ : ∃ n, xs.length = n := ⟨_, rfl⟩
  obtain ⟨q1, hq1⟩ : ∃ q, d1.length = q := ⟨_, rfl⟩
  rw [List.length_map, hn, hq1]
  rw [hn] at h2
  have hn2 : n ≤ 1099511627776 := by omega
  have HX := Aside0.mk h2
  have HN := Aside0.mk hn
  have HP := Aside0.mk (PlAt.start w n1 (.slice A1 q1 c1) (.cells #[.string n1, .slice A1 q1 c1, .slice A2 n c2] 26))
  have HB0 : Aside0 (RowOK w xs []) := ⟨fun j x c _ h => by simp at h⟩
  clear h2 hn hx hq1
  go_enter Try.func12, Try.ntmps12
  go_wp2
  go_loopg [14] n (fun g v14 wx => ∃ (i : Nat) (u : Value) (rows : List (List Value)), i + g = n ∧ rows.length = i ∧ v14 = .int .i64 (i : Int) ∧ Aside0 (PlAt w.heap.size w wx n1 (.slice A1 q1 c1) u) ∧ Aside0 ((Kd.raw 2).R 66 wx (w.heap.size + 1 + 1 + 1) (fun _ => True) u rows) ∧ Aside0 (RowOK w xs rows))
  case atStart => exact ⟨0, .slice none 0 0, [], by omega, rfl, rfl, HP, ⟨Kd.R_nil _ _ _ _ _⟩, HB0⟩
  case round =>
    clear HB0 HP
    obtain ⟨i, u, rows, hig, hri, rfl, HP, HR, HO⟩ := hrel
    have HRI := Aside0.mk hri
    clear hri
    have hz : w.heap.size + 1 + 1 < wr.heap.size := (Array.getElem?_eq_some_iff.1 HP.out.out).1
    have k0 : wr.cell? ⟨w.heap.size + 1 + 1, 0, none⟩ = some (.string n1) := by simp [World.cell?, HP.out.out]
    have k1_ : wr.cell? ⟨w.heap.size + 1 + 1, 1, none⟩ = some (.slice A1 q1 c1) := by simp [World.cell?, HP.out.out]
    have k2_ : wr.cell? ⟨w.heap.size + 1 + 1, 2, none⟩ = some u := by simp [World.cell?, HP.out.out]
    cases gk with
    | zero =>
      obtain rfl : i = n := by omega
      have d1 : decide ((i : Int) < (i : Int)) = false := decide_eq_false (by omega)
      obtain ⟨Au, cu, rfl, hcu, hCu⟩ := Kd.R_reads HR.out
      have HC := Aside0.mk hCu
      have HL := Aside0.mk hcu
      clear hCu hcu
      obtain ⟨w9, hw9⟩ : ∃ w9, (((wr.setCell ⟨w.heap.size + 1, 0, none⟩ (.string n1)).setCell ⟨w.heap.size + 1, 1, none⟩ (.slice A1 q1 c1)).setCell ⟨w.heap.size + 1, 2, none⟩ (.slice Au rows.length cu)) = w9 := ⟨_, rfl⟩
      have r0 : wr.cell? ⟨w.heap.size + 1, 0, none⟩ = some (.string ⟨#[]⟩) := by simp [World.cell?, HP.out.res]
      have r1 : wr.cell? ⟨w.heap.size + 1, 1, none⟩ = some (.slice none 0 0) := by simp [World.cell?, HP.out.res]
      have r2 : wr.cell? ⟨w.heap.size + 1, 2, none⟩ = some (.slice none 0 0) := by simp [World.cell?, HP.out.res]
      have rf : ∀ k, wr.frozen? ⟨w.heap.size + 1, k, none⟩ = false := fun k => by simp [World.frozen?, HP.out.res]
      have g9 : w9.heap[w.heap.size + 1]? = some (.cells #[.string n1, .slice A1 q1 c1, .slice Au rows.length cu] 33 (0, 0)) := by rw [← hw9]; simp [World.setCell, Array.getElem?_modify, HP.out.res]
      have b9 : Below w.heap.size w w9 := by rw [← hw9]; exact below_set (below_set (below_set HP.out.below _ _ (Nat.le_succ _)) _ _ (Nat.le_succ _)) _ _ (Nat.le_succ _)
      have R9 : (Kd.raw 2).R 66 w9 (w.heap.size + 1 + 1 + 1) (fun _ => True) (.slice Au rows.length cu) rows := by
        rw [← hw9]
        exact R_setf (h := w.heap.size) (R_setf (h := w.heap.size) (R_setf (h := w.heap.size) HR.out 0 1 (by omega)) 1 1 (by omega)) 2 1 (by omega)
      obtain ⟨_, _, hC9⟩ := Kd.R_reads' R9
      rw [HRI.out] at hC9
      have hk := rows_C hC9 b9 HO.out (by rw [HRI.out, HN.out])
      have HG9 := Aside0.mk g9
      have HB9 := Aside0.mk b9
      have HK := Aside0.mk hk
      have HW9 := Aside0.mk hw9
      clear g9 b9 hk hC9 R9 hw9
      go_wp2
      rw [HW9.out]
      refine bodyPost_ret (v := .agg #[.string n1, .slice A1 q1 c1, .slice Au rows.length cu]) (results_cell_row rfl _ _ (w.heap.size + 1) 33 #[.string n1, .slice A1 q1 c1, .slice Au rows.length cu] (0, 0) _ rfl HG9.out Try.underlying33 rfl (by kernel_rfl)) rfl ?_
      exact ⟨Au, cu, by rw [HRI.out], HRI.out ▸ HL.out, HK.out, HB9.out⟩
    | succ k1 =>
      have hi : i < n := by omega
      have d1 : decide ((i : Int) < (n : Int)) = true := decide_eq_true (by omega)
      have i1 : i < xs.length := by rw [HN.out]; exact hi
      obtain ⟨adx, Ax, cx, ex, hx0, hx1, hxl, hxr⟩ := at_T47 HX.out (i : Int) (by omega) (by omega)
      cases ex
      simp only [Int.toNat_natCast] at hx0 hx1
      rw [rd_step xs i i1] at hx0 hx1 hxl hxr
      obtain ⟨x, hxe⟩ : ∃ x, xs[i] = x := ⟨_, rfl⟩
      rw [hxe] at hx0 hx1 hxl hxr
      have HXI := Aside0.mk (show xs[rows.length]? = some x from by rw [HRI.out, List.getElem?_eq_getElem i1, hxe])
      clear hxe i1
      have hX0 := (HP.out.below.cell (World.block_lt_of_cell? w _ hx0)).trans hx0
      have hX1 := (HP.out.below.cell (World.block_lt_of_cell? w _ hx1)).trans hx1
      have p1 : (0 ≤ (i : Int)) = True := eq_true (by omega)
      have q1_ : ((i : Int) < (n : Int)) = True := eq_true (by omega)
      have k3_ : ∀ o, (wr.alloc o).cell? ⟨w.heap.size + 1 + 1, 2, none⟩ = some u := fun o => pw_cell_below (below_alloc (Below.refl _ wr) o) k2_
      have HXR := Aside0.mk hxr
      have HXL := Aside0.mk hxl
      clear hxr hxl hx0 hx1
      obtain ⟨L, hL⟩ : ∃ L, rows.length = L := ⟨_, rfl⟩
      have HL := Aside0.mk hL
      clear hL
      obtain ⟨Au, cu, rfl⟩ := Kd.R_slice HR.out
      have HZ := Aside0.mk hz
      clear hz
      go_wp2_with ((with_reducible refine gate_builtin (b := .append) (xs := #[.tmp 19, .tmp 25]) rfl ?_); at_builtin; generalize hW6 : World.alloc wr (.cells #[.string x.f0, .slice Ax x.f1.length cx] 47) = w6; have hb6 := below_alloc1 hW6; have hs6 : w6.heap.size = wr.heap.size + 1 := (by rw [← hW6]; exact Array.size_push _); refine Kd.R_append (Kd.raw 2) (w0 := w6) (w.heap.size + 1 + 1 + 1) rfl (.tmp 19) (.tmp 25) 31 66 (.agg #[(.string ⟨#[]⟩), (.slice none 0 0)]) 40 rfl Try.underlying31 info66r rfl (by decide) (by omega) _ rows [.string x.f0, .slice Ax x.f1.length cx] [.string x.f0, .slice Ax x.f1.length cx] (fun _ => True) (fun _ => False) rfl (by rw [hs6]; rfl) ⟨rfl, rfl, by intro v hv; simp at hv; rcases hv with rfl | rfl <;> rfl⟩ (fun _ h => h.elim) (fun _ _ => trivial) (Kd.R_below HR.out hb6) (Below.refl _ _) (Nat.le_trans HZ.out hb6.size) (by have := HRI.out; omega) ?_; intro v7 w7 hr7 hb7 hg7 hat7; obtain ⟨A7, c7, rfl⟩ := Kd.R_slice hr7; have hP7 := HP.out.round HZ.out ((hb6.mono HZ.out).trans hb7) hr7; have y7 := (hb7.block _ (Nat.lt_succ_self _)).trans ((hb6.block _ HZ.out).trans HP.out.out); have y1 : w7.cell? ⟨w.heap.size + 1 + 1, 2, none⟩ = some (.slice Au rows.length cu) := (by simp [World.cell?, y7]); have y2 : w7.frozen? ⟨w.heap.size + 1 + 1, 2, none⟩ = false := (by simp [World.frozen?, y7]); (simp only [List.length_append, List.length_singleton] at hP7); have HP7 := Aside0.mk hP7; clear hP7 y7 hb7 hg7 hat7 hb6 hW6 hr7)
      go_roundg k1
      case measure => omega
      case rel => exact ⟨i + 1, _, rows ++ [[.string x.f0, .slice Ax x.f1.length cx]], by omega, by rw [List.length_append, HRI.out]; rfl, by go_num, ⟨HP7.out.1⟩, ⟨HP7.out.2⟩, ⟨HO.out.snoc HXI.out HXL.out HXR.out⟩⟩
end Go.Proofs.Ytdkkgeibifpgiaa.Rc
/- recipe.Same, walked. -/
namespace Go.Proofs.Ytdkkgeibifpgiaa.Rc
open Go.RowKit Go.Proofs.YtdkkgeibifpgiaaW.PrintWords Go.Proofs.YtdkkgeibifpgiaaW.PrintLast Go.Proofs.YtdkkgeibifpgiaaW.PrintMore Go.Proofs.Ytdkkgeibifpgiaa.Bytes Go.Proofs.Ytdkkgeibifpgiaa.Q
set_option linter.unusedVariables false
set_option linter.unusedSimpArgs false

set_option maxRecDepth 100000 in
set_option maxHeartbeats 4000000 in
theorem same_calls (n1 : ByteArray) (A1 : Option Addr) (c1 : Nat) (d1 : List ByteArray) (A2 : Option Addr) (c2 : Nat) (xs : List S47) (n2 : ByteArray) (A3 : Option Addr) (c3 : Nat) (d2 : List ByteArray) (A4 : Option Addr) (c4 : Nat) (ys : List S47) (w : World)
    (h1 : Kd.C Kd.string w A1 d1.length d1) (hc1 : d1.length ≤ c1) (h2 : Kd.C k47 w A2 xs.length xs) (hc2 : xs.length ≤ c2) (h3 : Kd.C Kd.string w A3 d2.length d2) (hc3 : d2.length ≤ c3) (h4 : Kd.C k47 w A4 ys.length ys) (hc4 : ys.length ≤ c4) (hd : d1.length ≤ 1099511627776) (hx : xs.length ≤ 1099511627776) (ha : ∀ x ∈ xs, x.f1.length ≤ 1099511627776) :
    Calls Try.prog 15 #[.agg #[.string n1, .slice A1 d1.length c1, .slice A2 xs.length c2], .agg #[.string n2, .slice A3 d2.length c3, .slice A4 ys.length c4]] w fun e w' => e = .returned (.bool (decide (n1 = n2 ∧ d1 = d2 ∧ xs = ys))) ∧ Below w.heap.size w w' := by
  have hu26 := Try.underlying26
  obtain ⟨q1, hq1⟩ : ∃ q, d1.length = q := ⟨_, rfl⟩
  obtain ⟨q2, hq2⟩ : ∃ q, xs.length = q := ⟨_, rfl⟩
  obtain ⟨q3, hq3⟩ : ∃ q, d2.length = q := ⟨_, rfl⟩
  obtain ⟨q4, hq4⟩ : ∃ q, ys.length = q := ⟨_, rfl⟩
  have HE := Aside0.mk (show ∀ W, Below w.heap.size w W → Calls Try.prog 31 #[.slice A1 q1 c1, .slice A3 q3 c3] W fun e w' => e = .returned (.bool (decide (d1 = d2))) ∧ Drawn0 W w' from fun W hb => by
    rw [← hq1, ← hq3]
    exact slices_Equal_string_string.calls 1099511627780 A1 c1 d1 A3 c3 d2 _ W (Kd.C_below h1 hb) hc1 (Kd.C_below h3 hb) hc3 (eq_f d1 d2 hd _ (Nat.le_refl _)))
  have HF := Aside0.mk (show ∀ W, Below w.heap.size w W → Calls Try.prog 32 #[.slice A2 q2 c2, .slice A4 q4 c4, .func (.func 33) #[] #[]] W fun e w' => e = .returned (.bool (decide (xs = ys))) ∧ Below W.heap.size W w' from fun W hb => by
    rw [← hq2, ← hq4]
    exact eqf_calls A2 c2 xs A4 c4 ys W (Kd.C_below h2 hb) (Kd.C_below h4 hb) hx ha)
  rw [hq1, hq2, hq3, hq4]
  clear h1 h2 h3 h4 hc1 hc2 hc3 hc4 hd hx ha hq1 hq2 hq3 hq4
  obtain ⟨w2, hw2⟩ : ∃ w2, (w.alloc (.cells #[.string n1, .slice A1 q1 c1, .slice A2 q2 c2] 26)).alloc (.cells #[.string n2, .slice A3 q3 c3, .slice A4 q4 c4] 26) = w2 := ⟨_, rfl⟩
  have hb2 : Below w.heap.size w w2 := by rw [← hw2]; exact ((Below.refl _ _).alloc (Nat.le_refl _) _).alloc (by simp) _
  have g1 : w2.heap[w.heap.size]? = some (.cells #[.string n1, .slice A1 q1 c1, .slice A2 q2 c2] 26 (0, 0)) := by rw [← hw2]; exact ((below_alloc (Below.refl _ _) _).block _ (by simp)).trans (heap_alloc_new _ _)
  have g2 : w2.heap[w.heap.size + 1]? = some (.cells #[.string n2, .slice A3 q3 c3, .slice A4 q4 c4] 26 (0, 0)) := by rw [← hw2]; exact heap_alloc2_new _ _ _
  have HB2 := Aside0.mk hb2
  have HG1 := Aside0.mk g1
  have HG2 := Aside0.mk g2
  have HW := Aside0.mk hw2
  clear hb2 g1 g2 hw2
  have HC := Aside0.mk (show ∀ W, Below w2.heap.size w2 W → W.cell? ⟨w.heap.size, 2, none⟩ = some (.slice A2 q2 c2) ∧ W.cell? ⟨w.heap.size + 1, 2, none⟩ = some (.slice A4 q4 c4) from fun W hb => by
    have z1 := (Array.getElem?_eq_some_iff.1 HG1.out).1
    have z2 := (Array.getElem?_eq_some_iff.1 HG2.out).1
    exact ⟨by simp [World.cell?, (hb.block _ z1).trans HG1.out], by simp [World.cell?, (hb.block _ z2).trans HG2.out]⟩)
  by_cases e1 : n1 = n2
  · have t1 : (n1.toList == n2.toList) = true := beq_iff_eq.mpr ((tl_eq _ _).2 e1)
    by_cases e2 : d1 = d2
    · have t2 : decide (d1 = d2) = true := decide_eq_true e2
      have t3 : decide (n1 = n2 ∧ d1 = d2 ∧ xs = ys) = decide (xs = ys) := by simp [e1, e2]
      rw [t3]
      rw [t2] at HE
      clear e1 e2 t2 t3
      go_enter Try.func15, Try.ntmps15
      go_wp2_with (first | (go_at_call 31; rw [HW.out]; refine (HE.out _ (by exact HB2.out)).mono ?_; rintro e w3 ⟨rfl, hd3⟩; have HB3 := Aside0.mk (HB2.out.trans (hd3.below.mono HB2.out.size)); obtain ⟨y1, y2⟩ := HC.out w3 hd3.below; clear hd3) | (go_at_call 32; refine (HF.out _ HB3.out).mono ?_; rintro e w4 ⟨rfl, hb4⟩; have HB4 := Aside0.mk (HB3.out.trans (hb4.mono HB3.out.size)); clear hb4))
      go_ret
      exact ⟨rfl, HB4.out⟩
    · have t2 : decide (d1 = d2) = false := decide_eq_false e2
      have t3 : decide (n1 = n2 ∧ d1 = d2 ∧ xs = ys) = false := by simp [e2]
      rw [t3]
      rw [t2] at HE
      clear e1 e2 t2 t3
      go_enter Try.func15, Try.ntmps15
      go_wp2_with (go_at_call 31; rw [HW.out]; refine (HE.out _ (by exact HB2.out)).mono ?_; rintro e w3 ⟨rfl, hd3⟩; have HB3 := Aside0.mk (HB2.out.trans (hd3.below.mono HB2.out.size)); clear hd3)
      go_ret
      exact ⟨rfl, HB3.out⟩
  · have t1 : (n1.toList == n2.toList) = false := beq_eq_false_iff_ne.mpr (fun h => e1 ((tl_eq _ _).1 h))
    have t3 : decide (n1 = n2 ∧ d1 = d2 ∧ xs = ys) = false := by simp [e1]
    rw [t3]
    clear e1 t3
    go_enter Try.func15, Try.ntmps15
    go_wp2
    go_ret
    exact ⟨rfl, by first | exact HB2.out | (rw [HW.out]; exact HB2.out)⟩
end Go.Proofs.Ytdkkgeibifpgiaa.Rc
/- Parse's contract in two forms; the law's awake. -/
namespace Go.Proofs.Ytdkkgeibifpgiaa.Rc
open Go.RowKit Go.Proofs.YtdkkgeibifpgiaaW.PrintWords Go.Proofs.YtdkkgeibifpgiaaW.PrintLast Go.Proofs.YtdkkgeibifpgiaaW.PrintMore Go.Proofs.Ytdkkgeibifpgiaa.Bytes Go.Proofs.Ytdkkgeibifpgiaa.Q
set_option linter.unusedVariables false
set_option linter.unusedSimpArgs false

theorem parse_ok (T : ByteArray) (hT : T.size ≤ 1099511627776) (w : World) (nm : ByteArray) (deps : List ByteArray) (steps : List S47) (r : List UInt8) (h : parseL (bs T) = .ok (nm, deps, steps) r) :
    Calls Try.prog 9 #[.string T] w fun e w' => ∃ A1 c1 A2 c2, e = .returned (.tuple #[.agg #[.string nm, .slice A1 deps.length c1, .slice A2 steps.length c2], .nilIface]) ∧ deps.length ≤ c1 ∧ Kd.C Kd.string w' A1 deps.length deps ∧ steps.length ≤ c2 ∧ Kd.C k47 w' A2 steps.length steps ∧ Below w.heap.size w w' := by
  have hc := parse_calls T hT w
  rw [h] at hc
  refine hc.mono ?_
  intro e w' hA
  obtain ⟨dv, sv, he, h1, h2, h3⟩ := hA
  obtain ⟨A1, c1, e1, l1, g1⟩ := Kd.R_reads h1
  obtain ⟨A2, c2, e2, l2, g2⟩ := Kd.R_reads h2
  subst e1 e2
  exact ⟨A1, c1, A2, c2, he, l1, g1, l2, g2, h3⟩
theorem parse_bad (T : ByteArray) (hT : T.size ≤ 1099511627776) (w : World) (l : Nat) (h : parseL (bs T) = .bad l) :
    Calls Try.prog 9 #[.string T] w fun e w' => ∃ g, e = .returned (.tuple #[.agg #[.string ⟨#[]⟩, .slice none 0 0, .slice none 0 0], .iface 51 (.pointer (some ⟨g, 0, none⟩))]) ∧ w'.heap[g]? = some (.cells #[.int .i64 210, .int .i64 ((T.size - l : Nat) : Int)] 40 (0, 0)) ∧ Below w.heap.size w w' := by
  have hc := parse_calls T hT w
  rw [h] at hc
  refine hc.mono ?_
  intro e w' hA
  obtain ⟨g, he, _, h2, h3⟩ := hA
  exact ⟨g, he, h2, h3⟩
def exT : ByteArray := ⟨#[82, 101, 99, 105, 112, 101, 40, 34, 97, 34, 44, 91, 34, 98, 34, 93, 44, 91, 40, 34, 100, 105, 114, 34, 44, 34, 120, 34, 41, 93, 41]⟩
def exBad : ByteArray := ⟨#[82, 101, 99, 105, 112, 101, 40, 120]⟩
def exDeps : List ByteArray := [⟨#[98]⟩]
def exSteps : List S47 := [⟨⟨#[100, 105, 114]⟩, [⟨#[120]⟩]⟩]
theorem ex_print : mkS (printL (⟨#[97]⟩, exDeps, exSteps)) = exT := by rfl
theorem ex_bad : parseL (bs exBad) = .bad 1 := by rfl
theorem ex_ok : parseL (bs exT) = .ok (⟨#[97]⟩, exDeps, exSteps) [] := by
  rw [← ex_print, bs_mkS]
  exact parse_print _
set_option maxRecDepth 100000 in
set_option maxHeartbeats 8000000 in
theorem awake_calls (w : World) : Calls Try.prog 8 #[] w fun e w' => e = .returned (.bool true) ∧ Below w.heap.size w w' := by
  have hu26 := Try.underlying26
  obtain ⟨T, hT⟩ : ∃ T, exT = T := ⟨_, rfl⟩
  have teq : (T.toList == ([82, 101, 99, 105, 112, 101, 40, 34, 97, 34, 44, 91, 34, 98, 34, 93, 44, 91, 40, 34, 100, 105, 114, 34, 44, 34, 120, 34, 41, 93, 41] : List UInt8)) = true := by rw [← hT, toList_bs]; exact beq_self_eq_true _
  have hPr := ex_print
  have hOk := ex_ok
  rw [hT] at hPr hOk
  have hsz : T.size ≤ 1099511627776 := by rw [← hT]; decide
  have HPR := Aside0.mk (show ∀ W A1 A2, Kd.C Kd.string W A1 1 exDeps → Kd.C k47 W A2 1 exSteps → Calls Try.prog 14 #[.agg #[.string ⟨#[97]⟩, .slice A1 1 1, .slice A2 1 1]] W fun e w' => e = .returned (.string T) ∧ Below W.heap.size W w' from fun W A1 A2 h1 h2 => by
    rw [← hPr]
    exact print_calls ⟨#[97]⟩ A1 1 exDeps A2 1 exSteps W h1 (Nat.le_refl _) h2 (Nat.le_refl _) (by decide))
  have HOK := Aside0.mk (show ∀ W, Calls Try.prog 9 #[.string T] W fun e w' => ∃ A1 c1 A2 c2, e = .returned (.tuple #[.agg #[.string ⟨#[97]⟩, .slice A1 1 c1, .slice A2 1 c2], .nilIface]) ∧ Below W.heap.size W w' from fun W => (parse_ok T hsz W _ _ _ _ hOk).mono fun e w' ⟨A1, c1, A2, c2, he, _, _, _, _, hb⟩ => ⟨A1, c1, A2, c2, he, hb⟩)
  have HBAD := Aside0.mk (show ∀ W, Calls Try.prog 9 #[.string ⟨#[82, 101, 99, 105, 112, 101, 40, 120]⟩] W fun e w' => ∃ g, e = .returned (.tuple #[.agg #[.string ⟨#[]⟩, .slice none 0 0, .slice none 0 0], .iface 51 (.pointer (some ⟨g, 0, none⟩))]) ∧ Below W.heap.size W w' from fun W => (parse_bad exBad (by decide) W _ ex_bad).mono fun e w' ⟨g, he, _, hb⟩ => ⟨g, he, hb⟩)
  clear hT hPr hOk hsz
  obtain ⟨w4, hw4⟩ : ∃ w4, (((w.alloc (.cells #[.string ⟨#[98]⟩] 9)).alloc (.cells #[.string ⟨#[120]⟩] 9)).alloc (.cells #[.string ⟨#[100, 105, 114]⟩, .slice (some ⟨w.heap.size + 1, 0, none⟩) 1 1] 47)).alloc (.cells #[.string ⟨#[97]⟩, .slice (some ⟨w.heap.size, 0, none⟩) 1 1, .slice (some ⟨w.heap.size + 1 + 1, 0, none⟩) 1 1] 26) = w4 := ⟨_, rfl⟩
  have a1 : ∀ (W : World) (o : Obj), (W.alloc o).heap.size = W.heap.size + 1 := fun W o => Array.size_push _
  have a2 : ∀ (W : World) (o : Obj) (k : Nat), k < W.heap.size → (W.alloc o).heap[k]? = W.heap[k]? := fun W o k hk => ((Below.refl W.heap.size W).alloc (Nat.le_refl _) o).block k hk
  have a3 : ∀ (W : World) (o : Obj) (k : Nat), k = W.heap.size → (W.alloc o).heap[k]? = some o := fun W o k hk => by rw [hk]; exact World.alloc_heap_new W o
  have g0 : w4.heap[w.heap.size]? = some (.cells #[.string ⟨#[98]⟩] 9 (0, 0)) := by rw [← hw4, a2 _ _ _ (by simp only [a1]; omega), a2 _ _ _ (by simp only [a1]; omega), a2 _ _ _ (by simp only [a1]; omega), a3 _ _ _ rfl]
  have g1 : w4.heap[w.heap.size + 1]? = some (.cells #[.string ⟨#[120]⟩] 9 (0, 0)) := by rw [← hw4, a2 _ _ _ (by simp only [a1]; omega), a2 _ _ _ (by simp only [a1]; omega), a3 _ _ _ (by simp only [a1])]
  have g2 : w4.heap[w.heap.size + 1 + 1]? = some (.cells #[.string ⟨#[100, 105, 114]⟩, .slice (some ⟨w.heap.size + 1, 0, none⟩) 1 1] 47 (0, 0)) := by rw [← hw4, a2 _ _ _ (by simp only [a1]; omega), a3 _ _ _ (by simp only [a1])]
  have g3 : w4.heap[w.heap.size + 1 + 1 + 1]? = some (.cells #[.string ⟨#[97]⟩, .slice (some ⟨w.heap.size, 0, none⟩) 1 1, .slice (some ⟨w.heap.size + 1 + 1, 0, none⟩) 1 1] 26 (0, 0)) := by rw [← hw4, a3 _ _ _ (by simp only [a1])]
  have hb4 : Below w.heap.size w w4 := by rw [← hw4]; exact ((((Below.refl _ w).alloc (Nat.le_refl _) _).alloc (by simp only [a1]; omega) _).alloc (by simp only [a1]; omega) _).alloc (by simp only [a1]; omega) _
  have hC1 : Kd.C Kd.string w4 (some ⟨w.heap.size, 0, none⟩) 1 exDeps := SQ.all (W := w4) (g := w.heap.size) (cap := 1) (xs := exDeps) ⟨⟨_, g0, rfl, rfl⟩, by decide, by decide⟩
  have hC3 : Kd.C Kd.string w4 (some ⟨w.heap.size + 1, 0, none⟩) 1 [(⟨#[120]⟩ : ByteArray)] := SQ.all (W := w4) (g := w.heap.size + 1) (cap := 1) (xs := [(⟨#[120]⟩ : ByteArray)]) ⟨⟨_, g1, rfl, rfl⟩, by decide, by decide⟩
  have hC2 : Kd.C k47 w4 (some ⟨w.heap.size + 1 + 1, 0, none⟩) 1 exSteps := by
    refine ⟨rfl, by decide, fun _ => ⟨_, rfl, fun j p hj => ?_⟩⟩
    have hlt : j < exSteps.length := (List.getElem?_eq_some_iff.1 hj).1
    obtain rfl : j = 0 := by simpa [exSteps] using hlt
    obtain rfl := Option.some.inj hj
    refine ⟨[.string ⟨#[100, 105, 114]⟩, .slice (some ⟨w.heap.size + 1, 0, none⟩) 1 1], rfl, k47_mk w4 ⟨⟨#[100, 105, 114]⟩, [(⟨#[120]⟩ : ByteArray)]⟩ (Nat.le_refl 1) hC3, fun i u hu => ?_⟩
    have e0 : (0 * k47.sz + i) = i := by omega
    rw [e0, add_plain]
    match i, hu with
    | 0, hu => obtain rfl := Option.some.inj hu; simp [World.cell?, g2]
    | 1, hu => obtain rfl := Option.some.inj hu; simp [World.cell?, g2]
    | i + 2, hu => simp at hu
  have x0 : w4.cell? ⟨w.heap.size + 1 + 1 + 1, 0, none⟩ = some (.string ⟨#[97]⟩) := by simp [World.cell?, g3]
  have x1 : w4.cell? ⟨w.heap.size + 1 + 1 + 1, 1, none⟩ = some (.slice (some ⟨w.heap.size, 0, none⟩) 1 1) := by simp [World.cell?, g3]
  have x2 : w4.cell? ⟨w.heap.size + 1 + 1 + 1, 2, none⟩ = some (.slice (some ⟨w.heap.size + 1 + 1, 0, none⟩) 1 1) := by simp [World.cell?, g3]
  have HB4 := Aside0.mk hb4
  have HC1 := Aside0.mk hC1
  have HC2 := Aside0.mk hC2
  clear a1 a2 a3 g0 g1 g2 g3 hb4 hC1 hC2 hC3
  go_enter Try.func8, Try.ntmps8
  go_wp2_with (first | (go_at_call 14; refine (HPR.out _ _ _ HC1.out HC2.out).mono ?_; rintro e w5 ⟨rfl, hb5⟩; have HB5 := Aside0.mk (HB4.out.trans (hb5.mono HB4.out.size)); clear hb5) | (go_at_call 9; ((with_reducible refine (HOK.out _).mono ?_)); rintro e w6 ⟨A1, c1, A2, c2, rfl, hb6⟩; have HB6 := Aside0.mk (HB5.out.trans (hb6.mono HB5.out.size)); clear hb6) | (go_at_call 9; generalize hW6 : World.alloc w6 _ = w6b; have z6 := heap_alloc_new w6 (.cells #[.string ⟨#[97]⟩, .slice A1 1 c1, .slice A2 1 c2] 26); rw [hW6] at z6; have hb6b := below_alloc1 hW6; ((with_reducible refine (HBAD.out _).mono ?_)); rintro e w7 ⟨g, rfl, hb7⟩; have z7 := (hb7.block _ (Array.getElem?_eq_some_iff.1 z6).1).trans z6; have HB7 := Aside0.mk (HB6.out.trans ((hb6b.trans (hb7.mono hb6b.size)).mono HB6.out.size)); have y0 : ∀ o, (w7.alloc o).cell? ⟨w6.heap.size, 0, none⟩ = some (.string ⟨#[97]⟩) := (fun o => pw_cell_below (below_alloc (Below.refl _ w7) o) (by simp [World.cell?, z7])); have y2 : ∀ o, (w7.alloc o).cell? ⟨w6.heap.size, 2, none⟩ = some (.slice A2 1 c2) := (fun o => pw_cell_below (below_alloc (Below.refl _ w7) o) (by simp [World.cell?, z7])); clear hb7 z6 z7 hb6b hW6))
  go_ret
  exact ⟨rfl, below_alloc HB7.out _⟩
end Go.Proofs.Ytdkkgeibifpgiaa.Rc
/- depotlaw21.RecipeOne, walked: what is read is printed again as it was. -/
namespace Go.Proofs.Ytdkkgeibifpgiaa.Rc
open Go.RowKit Go.Proofs.YtdkkgeibifpgiaaW.PrintWords Go.Proofs.YtdkkgeibifpgiaaW.PrintLast Go.Proofs.YtdkkgeibifpgiaaW.PrintMore Go.Proofs.Ytdkkgeibifpgiaa.Bytes Go.Proofs.Ytdkkgeibifpgiaa.Q
set_option linter.unusedVariables false
set_option linter.unusedSimpArgs false

/-- Same of two empty recipes. -/
theorem same_empty (w : World) : Calls Try.prog 15 #[.agg #[.string ⟨#[]⟩, .slice none 0 0, .slice none 0 0], .agg #[.string ⟨#[]⟩, .slice none 0 0, .slice none 0 0]] w fun e w' => e = .returned (.bool true) ∧ Below w.heap.size w w' :=
  same_calls ⟨#[]⟩ none 0 [] none 0 [] ⟨#[]⟩ none 0 [] none 0 [] w (Kd.C_nil _ _) (Nat.le_refl _) (Kd.C_nil _ _) (Nat.le_refl _) (Kd.C_nil _ _) (Nat.le_refl _) (Kd.C_nil _ _) (Nat.le_refl _) (by decide) (by decide) (fun x h => by cases h)
theorem mkS_eq (T : ByteArray) (l : List UInt8) (h : l = bs T) : mkS l = T := by rw [h]; rfl
set_option maxRecDepth 100000 in
set_option maxHeartbeats 8000000 in
theorem one_walk (T : ByteArray) (hT : T.size ≤ 1099511627776) (w : World) : Calls Try.prog 6 #[.string T] w fun e w' => e = .returned (.bool true) ∧ Below w.heap.size w w' := by
  have hu26 := Try.underlying26
  cases hp : parseL (bs T) with
  | bad l =>
    have HP := Aside0.mk (fun W => parse_bad T hT W l hp)
    clear hp hT
    go_enter Try.func6, Try.ntmps6
    go_wp2_with (first | (go_at_call 8; refine (awake_calls _).mono ?_; rintro e w1 ⟨rfl, hb1⟩; have HB1 := Aside0.mk hb1; clear hb1) | (go_at_call 9; refine (HP.out _).mono ?_; rintro e w2 ⟨g, rfl, _, hb2⟩; have HB2 := Aside0.mk (HB1.out.trans (hb2.mono HB1.out.size)); clear hb2) | (go_at_call 15; generalize hW3 : World.alloc w2 _ = w3; have hb3 := below_alloc1 hW3; refine (same_empty w3).mono ?_; rintro e w4 ⟨rfl, hb4⟩; have HB4 := Aside0.mk (HB2.out.trans ((hb3.trans (hb4.mono hb3.size)).mono HB2.out.size)); clear hb3 hb4 hW3))
    go_ret
    exact ⟨rfl, HB4.out⟩
  | ok x r =>
    obtain ⟨nm, deps, steps⟩ := x
    obtain ⟨hpr, rfl⟩ := print_parse _ _ _ hp
    have hlen : (printL (nm, deps, steps)).length ≤ 1099511627776 := by rw [hpr, ← size_bs]; exact hT
    have hTm := mkS_eq T _ hpr
    have HP := Aside0.mk (fun W => parse_ok T hT W _ _ _ _ hp)
    have HPR := Aside0.mk (fun W A1 c1 A2 c2 h1 hc1 h2 hc2 => hTm ▸ print_calls nm A1 c1 deps A2 c2 steps W h1 hc1 h2 hc2 hlen)
    clear hp hT hpr hlen hTm
    go_enter Try.func6, Try.ntmps6
    go_wp2_with (first | (go_at_call 8; refine (awake_calls _).mono ?_; rintro e w1 ⟨rfl, hb1⟩; have HB1 := Aside0.mk hb1; clear hb1) | (go_at_call 9; refine (HP.out _).mono ?_; rintro e w2 ⟨A1, c1, A2, c2, rfl, hl1, hr1, hl2, hr2, hb2⟩; have HB2 := Aside0.mk (HB1.out.trans (hb2.mono HB1.out.size)); have HR1 := Aside0.mk hr1; have HR2 := Aside0.mk hr2; have HL1 := Aside0.mk hl1; have HL2 := Aside0.mk hl2; clear hb2 hr1 hr2 hl1 hl2) | (go_at_call 14; generalize hW3 : World.alloc w2 _ = w3; have hb3 := below_alloc1 hW3; refine (HPR.out w3 _ _ _ _ (Kd.C_below HR1.out hb3) HL1.out (Kd.C_below HR2.out hb3) HL2.out).mono ?_; rintro e w4 ⟨rfl, hb4⟩; have HB4 := Aside0.mk (HB2.out.trans ((hb3.trans (hb4.mono hb3.size)).mono HB2.out.size)); clear hb3 hb4 hW3))
    go_ret
    exact ⟨by simp, HB4.out⟩
end Go.Proofs.Ytdkkgeibifpgiaa.Rc
namespace Go.Proofs.Ytdkkgeibifpgiaa.Q
open Go.RowKit Go.Proofs.YtdkkgeibifpgiaaW.PrintWords Go.Proofs.Ytdkkgeibifpgiaa.Bytes Go.Proofs.Ytdkkgeibifpgiaa.Rc
def depotlaw21_RecipeOne.f (a0 : ByteArray) : Option Bool := if a0.size ≤ 1099511627776 then some true else none
theorem depotlaw21_RecipeOne.calls (a0 : ByteArray) (r : Bool) (w : World) (h : depotlaw21_RecipeOne.f a0 = some r) :
    Calls Try.prog 6 #[.string a0] w fun e w' => e = .returned (.bool r) ∧ Below w.heap.size w w' := by
  unfold depotlaw21_RecipeOne.f at h
  split at h
  case isFalse => cases h
  case isTrue hc =>
    obtain rfl := Option.some.inj h
    exact one_walk a0 hc w
end Go.Proofs.Ytdkkgeibifpgiaa.Q
/- depotlaw21.RecipeFirst, walked: where a text is broken, all ahead of the place goes on to a recipe. -/
namespace Go.Proofs.Ytdkkgeibifpgiaa.Rc
open Go.RowKit Go.Proofs.YtdkkgeibifpgiaaW.PrintWords Go.Proofs.YtdkkgeibifpgiaaW.PrintLast Go.Proofs.YtdkkgeibifpgiaaW.PrintMore Go.Proofs.Ytdkkgeibifpgiaa.Bytes Go.Proofs.Ytdkkgeibifpgiaa.Q
set_option linter.unusedVariables false
set_option linter.unusedSimpArgs false

theorem bs_take (T : ByteArray) (p : Nat) : bs (T.extract 0 p) = (bs T).take p := by rw [bs_extract, List.drop_zero, Nat.sub_zero]
theorem size_take (T : ByteArray) (p : Nat) (h : p ≤ T.size) : (T.extract 0 p).size = p := by rw [size_bs, bs_take, List.length_take, ← size_bs]; omega
set_option maxRecDepth 100000 in
set_option maxHeartbeats 8000000 in
theorem first_walk (T : ByteArray) (hT : T.size ≤ 1099511627776) (w : World) : Calls Try.prog 4 #[.string T] w fun e w' => e = .returned (.bool true) ∧ Below w.heap.size w w' := by
  have hu26 := Try.underlying26
  have hu40 := Try.underlying40
  cases hp : parseL (bs T) with
  | ok x r =>
    obtain ⟨nm, deps, steps⟩ := x
    have HP := Aside0.mk (fun W => parse_ok T hT W _ _ _ _ hp)
    clear hp hT
    go_enter Try.func4, Try.ntmps4
    go_wp2_with (first | (go_at_call 8; refine (awake_calls _).mono ?_; rintro e w1 ⟨rfl, hb1⟩; have HB1 := Aside0.mk hb1; clear hb1) | (go_at_call 9; refine (HP.out _).mono ?_; rintro e w2 ⟨A1, c1, A2, c2, rfl, _, _, _, _, hb2⟩; have HB2 := Aside0.mk (HB1.out.trans (hb2.mono HB1.out.size)); clear hb2))
    go_ret
    exact ⟨rfl, below_alloc HB2.out _⟩
  | bad l =>
    obtain ⟨hl, hpf⟩ := parse_first _ l hp
    rw [← size_bs] at hl hpf
    have HP := Aside0.mk (fun W => parse_bad T hT W l hp)
    obtain ⟨p, hpe⟩ : ∃ p, T.size - l = p := ⟨_, rfl⟩
    have hpT : p ≤ T.size := by omega
    rw [hpe] at HP hpf
    have hX : (T.extract 0 p).size ≤ 1099511627776 := by rw [size_take T p hpT]; omega
    rw [← bs_take] at hpf
    have HXS := Aside0.mk (size_take T p hpT)
    obtain ⟨X, hXe⟩ : ∃ X, T.extract 0 p = X := ⟨_, rfl⟩
    rw [hXe] at hX hpf HXS
    have HXE := Aside0.mk hXe
    clear hp hXe hpe hl
    have f1 : decide ((p : Int) < 0) = false := decide_eq_false (by omega)
    have f2 : decide ((T.size : Int) < (p : Int)) = false := decide_eq_false (by omega)
    have f3 : (0 ≤ (p : Int)) = True := eq_true (by omega)
    have f4 : ((p : Int) ≤ (T.size : Int)) = True := eq_true (by omega)
    rcases hpf with ⟨⟨nm, deps, steps⟩, hpf⟩ | hpf
    · have HP2 := Aside0.mk (fun W => parse_ok X hX W _ _ _ _ hpf)
      clear hpf hT hX
      go_enter Try.func4, Try.ntmps4
      go_wp2_with (first | (go_at_call 8; refine (awake_calls _).mono ?_; rintro e w1 ⟨rfl, hb1⟩; have HB1 := Aside0.mk hb1; clear hb1) | (go_at_call 9; ((with_reducible refine (HP.out _).mono ?_)); rintro e w2 ⟨g, rfl, hg2, hb2⟩; have HB2 := Aside0.mk (HB1.out.trans (hb2.mono HB1.out.size)); have HG2 := Aside0.mk hg2; clear hb2 hg2) | (go_at_call 13; generalize hW3 : World.alloc w2 _ = w3; have hb3 := below_alloc1 hW3; refine (fault_some g 210 p w3 ((hb3.block _ (Array.getElem?_eq_some_iff.1 HG2.out).1).trans HG2.out)).mono ?_; rintro e w4 ⟨rfl, hb4⟩; have HB4 := Aside0.mk (HB2.out.trans ((hb3.trans (hb4.mono hb3.size)).mono HB2.out.size)); clear hb3 hb4 hW3) | (go_at_call 9; rw [HXE.out]; generalize hW5 : World.alloc w4 _ = w5; have hb5 := below_alloc1 hW5; refine (HP2.out _).mono ?_; rintro e w6 ⟨A1, c1, A2, c2, rfl, _, _, _, _, hb6⟩; have HB6 := Aside0.mk (HB4.out.trans ((hb5.trans (hb6.mono hb5.size)).mono HB4.out.size)); clear hb5 hb6 hW5))
      generalize hW7 : World.alloc w6 _ = w7
      have HB7 := Aside0.mk (show Below w.heap.size w w7 from by rw [← hW7]; exact below_alloc HB6.out _)
      clear hW7
      repeat (go_quiet (fail); try go_wp2)
      go_ret
      exact ⟨rfl, by first | exact HB7.out | exact pw_below_drewN HB7.out _ | exact below_drew HB7.out⟩
    · have HP2 := Aside0.mk (fun W => parse_bad X hX W 0 hpf)
      rw [HXS.out, Nat.sub_zero] at HP2
      clear hpf hT hX
      go_enter Try.func4, Try.ntmps4
      go_wp2_with (first | (go_at_call 8; refine (awake_calls _).mono ?_; rintro e w1 ⟨rfl, hb1⟩; have HB1 := Aside0.mk hb1; clear hb1) | (go_at_call 9; ((with_reducible refine (HP.out _).mono ?_)); rintro e w2 ⟨g, rfl, hg2, hb2⟩; have HB2 := Aside0.mk (HB1.out.trans (hb2.mono HB1.out.size)); have HG2 := Aside0.mk hg2; clear hb2 hg2) | (go_at_call 13; generalize hW3 : World.alloc w2 _ = w3; have hb3 := below_alloc1 hW3; refine (fault_some g 210 p w3 ((hb3.block _ (Array.getElem?_eq_some_iff.1 HG2.out).1).trans HG2.out)).mono ?_; rintro e w4 ⟨rfl, hb4⟩; have HB4 := Aside0.mk (HB2.out.trans ((hb3.trans (hb4.mono hb3.size)).mono HB2.out.size)); clear hb3 hb4 hW3) | (go_at_call 9; rw [HXE.out]; generalize hW5 : World.alloc w4 _ = w5; have hb5 := below_alloc1 hW5; have z5 := heap_alloc_new w4 (.cells #[.int .i64 210, .int .i64 (p : Int)] 40); rw [hW5] at z5; refine (HP2.out _).mono ?_; rintro e w6 ⟨g6, rfl, hg6, hb6⟩; have HB6 := Aside0.mk (HB4.out.trans ((hb5.trans (hb6.mono hb5.size)).mono HB4.out.size)); have HZ6 := Aside0.mk ((hb6.block _ (Array.getElem?_eq_some_iff.1 z5).1).trans z5); have HG6 := Aside0.mk hg6; clear hb5 hb6 hW5 z5 hg6))
      generalize hW7 : World.alloc w6 _ = w7
      have hb7 := below_alloc1 hW7
      have z7 := (hb7.block _ (Array.getElem?_eq_some_iff.1 HZ6.out).1).trans HZ6.out
      have HG7 := Aside0.mk ((hb7.block _ (Array.getElem?_eq_some_iff.1 HG6.out).1).trans HG6.out)
      have HB7 := Aside0.mk (HB6.out.trans (hb7.mono HB6.out.size))
      have HZ7 := Aside0.mk z7
      have KEEP := Aside0.mk (show ∀ W, Below w7.heap.size w7 W → W.cell? ⟨w4.heap.size, 0, none⟩ = some (.int .i64 210) ∧ W.cell? ⟨w4.heap.size, 1, none⟩ = some (.int .i64 (p : Int)) from fun W hb => by
        have := (hb.block _ (Array.getElem?_eq_some_iff.1 HZ7.out).1).trans HZ7.out
        exact ⟨by simp [World.cell?, this], by simp [World.cell?, this]⟩)
      clear hW7 hb7 z7 HG6 HZ6 HG2
      go_region_held3 (fun w' => w'.cell? ⟨w4.heap.size, 0, none⟩ = some (.int .i64 210) ∧ w'.cell? ⟨w4.heap.size, 1, none⟩ = some (.int .i64 (p : Int))) (first | exact KEEP.out _ HB8.out | exact KEEP.out _ (below_drew (Below.refl _ _)))
        (first | (go_at_call 13; refine (fault_some g6 210 p w7.drew (show w7.drew.heap[g6]? = _ from HG7.out)).mono ?_; rintro e w8 ⟨rfl, hb8⟩; have HB8 := Aside0.mk (show Below w7.heap.size w7 w8 from (below_drew (Below.refl _ _)).trans hb8); clear hb8))
      go_wp2
      go_ret
      exact ⟨by simp, HB7.out.trans (HB8.out.mono HB7.out.size)⟩
end Go.Proofs.Ytdkkgeibifpgiaa.Rc
namespace Go.Proofs.Ytdkkgeibifpgiaa.Q
open Go.RowKit Go.Proofs.YtdkkgeibifpgiaaW.PrintWords Go.Proofs.Ytdkkgeibifpgiaa.Bytes Go.Proofs.Ytdkkgeibifpgiaa.Rc
def depotlaw21_RecipeFirst.f (a0 : ByteArray) : Option Bool := if a0.size ≤ 1099511627776 then some true else none
theorem depotlaw21_RecipeFirst.calls (a0 : ByteArray) (r : Bool) (w : World) (h : depotlaw21_RecipeFirst.f a0 = some r) :
    Calls Try.prog 4 #[.string a0] w fun e w' => e = .returned (.bool r) ∧ Below w.heap.size w w' := by
  unfold depotlaw21_RecipeFirst.f at h
  split at h
  case isFalse => cases h
  case isTrue hc =>
    obtain rfl := Option.some.inj h
    exact first_walk a0 hc w
end Go.Proofs.Ytdkkgeibifpgiaa.Q
/- depotlaw21.RecipeCuts, walked: a recipe's text cut short, or with more behind it. -/
namespace Go.Proofs.Ytdkkgeibifpgiaa.Rc
open Go.RowKit Go.Proofs.YtdkkgeibifpgiaaW.PrintWords Go.Proofs.YtdkkgeibifpgiaaW.PrintLast Go.Proofs.YtdkkgeibifpgiaaW.PrintMore Go.Proofs.Ytdkkgeibifpgiaa.Bytes Go.Proofs.Ytdkkgeibifpgiaa.Q
set_option linter.unusedVariables false
set_option linter.unusedSimpArgs false

set_option maxRecDepth 100000 in
set_option maxHeartbeats 16000000 in
theorem cuts_walk (n1 : ByteArray) (A1 : Option Addr) (c1 : Nat) (d1 : List ByteArray) (A2 : Option Addr) (c2 : Nat) (xs : List S47) (cut : Int) (M : ByteArray) (w : World)
    (h1 : Kd.C Kd.string w A1 d1.length d1) (hc1 : d1.length ≤ c1) (h2 : Kd.C k47 w A2 xs.length xs) (hc2 : xs.length ≤ c2) (hM : (printL (n1, d1, xs)).length + M.size ≤ 1099511627776) :
    Calls Try.prog 7 #[.agg #[.string n1, .slice A1 d1.length c1, .slice A2 xs.length c2], .int .i64 cut, .string M] w fun e w' => e = .returned (.bool true) ∧ Below w.heap.size w w' := by
  have hu26 := Try.underlying26
  have hu40 := Try.underlying40
  obtain ⟨T, hT⟩ : ∃ T, mkS (printL (n1, d1, xs)) = T := ⟨_, rfl⟩
  have hbT : bs T = printL (n1, d1, xs) := by rw [← hT]; rfl
  have hsT : T.size = (printL (n1, d1, xs)).length := by rw [size_bs, hbT]
  have hpc := parse_cut (bs T) _ (by rw [hbT]; exact parse_print (n1, d1, xs))
  have HCUT := Aside0.mk (show ∀ p, p < T.size → parseL ((bs T).take p) = .bad 0 from fun p h => hpc.1 p (by rw [← size_bs]; exact h))
  have HPR := Aside0.mk (show ∀ W, Below w.heap.size w W → Calls Try.prog 14 #[.agg #[.string n1, .slice A1 d1.length c1, .slice A2 xs.length c2]] W fun e w' => e = .returned (.string T) ∧ Below W.heap.size W w' from fun W hb => hT ▸ print_calls n1 A1 c1 d1 A2 c2 xs W (Kd.C_below h1 hb) hc1 (Kd.C_below h2 hb) hc2 (by omega))
  have hTs : T.size + M.size ≤ 1099511627776 := by omega
  have hTs1 : T.size ≤ 1099511627776 := by omega
  by_cases hm : M = ⟨#[]⟩
  · have e1 : (M.toList != ([] : List UInt8)) = false := by rw [hm, toList_bs]; rfl
    have e2 : M.toList.isEmpty = true := by rw [hm, toList_bs]; rfl
    have e3 : (M.toList == ([] : List UInt8)) = true := by rw [hm, toList_bs]; rfl
    clear hm hpc hbT hsT hT h1 h2 hc1 hc2 hM hTs
    by_cases k1 : cut < 0
    · have t1 : decide (cut < 0) = true := decide_eq_true k1
      clear k1
      go_enter Try.func7, Try.ntmps7
      go_wp2_with (first | (go_at_call 8; generalize hW0 : World.alloc w _ = w0; have hb0 := below_alloc1 hW0; have z0 := heap_alloc_new w (.cells #[.string n1, .slice A1 d1.length c1, .slice A2 xs.length c2] 26); rw [hW0] at z0; refine (awake_calls w0).mono ?_; rintro e w1 ⟨rfl, hb1⟩; have HB1 := Aside0.mk (hb0.trans (hb1.mono hb0.size)); have z1 := (hb1.block _ (Array.getElem?_eq_some_iff.1 z0).1).trans z0; have y0 : w1.cell? ⟨w.heap.size, 0, none⟩ = some (.string n1) := (by simp [World.cell?, z1]); have y1 : w1.cell? ⟨w.heap.size, 1, none⟩ = some (.slice A1 d1.length c1) := (by simp [World.cell?, z1]); have y2 : w1.cell? ⟨w.heap.size, 2, none⟩ = some (.slice A2 xs.length c2) := (by simp [World.cell?, z1]); clear hb0 hb1 hW0 z0 z1) | (go_at_call 14; refine (HPR.out _ HB1.out).mono ?_; rintro e w2 ⟨rfl, hb2⟩; have HB2 := Aside0.mk (HB1.out.trans (hb2.mono HB1.out.size)); clear hb2 y0 y1 y2))
      go_ret
      exact ⟨rfl, HB2.out⟩
    · have t1 : decide (cut < 0) = false := decide_eq_false k1
      by_cases k2 : (T.size : Int) ≤ cut
      · have t2 : decide ((T.size : Int) ≤ cut) = true := decide_eq_true k2
        clear k1 k2
        go_enter Try.func7, Try.ntmps7
        go_wp2_with (first | (go_at_call 8; generalize hW0 : World.alloc w _ = w0; have hb0 := below_alloc1 hW0; have z0 := heap_alloc_new w (.cells #[.string n1, .slice A1 d1.length c1, .slice A2 xs.length c2] 26); rw [hW0] at z0; refine (awake_calls w0).mono ?_; rintro e w1 ⟨rfl, hb1⟩; have HB1 := Aside0.mk (hb0.trans (hb1.mono hb0.size)); have z1 := (hb1.block _ (Array.getElem?_eq_some_iff.1 z0).1).trans z0; have y0 : w1.cell? ⟨w.heap.size, 0, none⟩ = some (.string n1) := (by simp [World.cell?, z1]); have y1 : w1.cell? ⟨w.heap.size, 1, none⟩ = some (.slice A1 d1.length c1) := (by simp [World.cell?, z1]); have y2 : w1.cell? ⟨w.heap.size, 2, none⟩ = some (.slice A2 xs.length c2) := (by simp [World.cell?, z1]); clear hb0 hb1 hW0 z0 z1) | (go_at_call 14; refine (HPR.out _ HB1.out).mono ?_; rintro e w2 ⟨rfl, hb2⟩; have HB2 := Aside0.mk (HB1.out.trans (hb2.mono HB1.out.size)); clear hb2 y0 y1 y2))
        go_ret
        exact ⟨rfl, HB2.out⟩
      · have t2 : decide ((T.size : Int) ≤ cut) = false := decide_eq_false k2
        obtain ⟨p, rfl⟩ := Int.eq_ofNat_of_zero_le (show 0 ≤ cut by omega)
        have hpl : p < T.size := by have : ((p : Nat) : Int) < (T.size : Int) := (by omega); omega
        obtain ⟨X, hXe⟩ : ∃ X, T.extract 0 p = X := ⟨_, rfl⟩
        have hXs : X.size = p := by rw [← hXe]; exact size_take T p (by omega)
        have hXp : parseL (bs X) = .bad 0 := by rw [← hXe, bs_take]; exact HCUT.out p hpl
        have HPC := Aside0.mk (fun W => parse_bad X (by omega) W 0 hXp)
        rw [hXs, Nat.sub_zero] at HPC
        have HXE := Aside0.mk hXe
        have f3 : (0 ≤ (p : Int)) = True := eq_true (by omega)
        have f4 : ((p : Int) ≤ (T.size : Int)) = True := eq_true (by omega)
        have f5 : (p ≤ T.size) = True := eq_true (by omega)
        have f6 : decide (T.size ≤ p) = false := decide_eq_false (by omega)
        clear k1 k2 hXe hXs hXp hpl
        go_enter Try.func7, Try.ntmps7
        go_wp2_with (first | (go_at_call 8; generalize hW0 : World.alloc w _ = w0; have hb0 := below_alloc1 hW0; have z0 := heap_alloc_new w (.cells #[.string n1, .slice A1 d1.length c1, .slice A2 xs.length c2] 26); rw [hW0] at z0; refine (awake_calls w0).mono ?_; rintro e w1 ⟨rfl, hb1⟩; have HB1 := Aside0.mk (hb0.trans (hb1.mono hb0.size)); have z1 := (hb1.block _ (Array.getElem?_eq_some_iff.1 z0).1).trans z0; have y0 : w1.cell? ⟨w.heap.size, 0, none⟩ = some (.string n1) := (by simp [World.cell?, z1]); have y1 : w1.cell? ⟨w.heap.size, 1, none⟩ = some (.slice A1 d1.length c1) := (by simp [World.cell?, z1]); have y2 : w1.cell? ⟨w.heap.size, 2, none⟩ = some (.slice A2 xs.length c2) := (by simp [World.cell?, z1]); clear hb0 hb1 hW0 z0 z1) | (go_at_call 14; refine (HPR.out _ HB1.out).mono ?_; rintro e w2 ⟨rfl, hb2⟩; have HB2 := Aside0.mk (HB1.out.trans (hb2.mono HB1.out.size)); clear hb2 y0 y1 y2) | (go_at_call 9; rw [HXE.out]; refine (HPC.out _).mono ?_; rintro e w6 ⟨g6, rfl, hg6, hb6⟩; have HB6 := Aside0.mk (HB2.out.trans (hb6.mono HB2.out.size)); have HG6 := Aside0.mk hg6; clear hb6 hg6) | (go_at_call 13; generalize hW7 : World.alloc w6 _ = w7; have hb7 := below_alloc1 hW7; have z7 := heap_alloc_new w6 (.cells #[.string ⟨#[]⟩, .slice none 0 0, .slice none 0 0] 26); rw [hW7] at z7; refine (fault_some g6 210 _ w7 ((hb7.block _ (Array.getElem?_eq_some_iff.1 HG6.out).1).trans HG6.out)).mono ?_; rintro e w8 ⟨rfl, hb8⟩; have HB8 := Aside0.mk (HB6.out.trans ((hb7.trans (hb8.mono hb7.size)).mono HB6.out.size)); have z8 := (hb8.block _ (Array.getElem?_eq_some_iff.1 z7).1).trans z7; have u0 : w8.cell? ⟨w6.heap.size, 0, none⟩ = some (.string ⟨#[]⟩) := (by simp [World.cell?, z8]); have u1 : w8.cell? ⟨w6.heap.size, 1, none⟩ = some (.slice none 0 0) := (by simp [World.cell?, z8]); have u2 : w8.cell? ⟨w6.heap.size, 2, none⟩ = some (.slice none 0 0) := (by simp [World.cell?, z8]); clear hb7 hb8 hW7 z7 z8) | (go_at_call 15; refine (same_empty _).mono ?_; rintro e w9 ⟨rfl, hb9⟩; have HB9 := Aside0.mk (HB8.out.trans (hb9.mono HB8.out.size)); clear hb9))
        go_ret
        exact ⟨rfl, HB9.out⟩
  · have hne : bs M ≠ [] := fun h => hm (bs_inj h)
    have e1 : (M.toList != ([] : List UInt8)) = true := by rw [toList_bs, bne_iff_ne]; exact hne
    have e2 : M.toList.isEmpty = false := by rw [toList_bs]; cases hb : bs M with | nil => exact absurd hb hne | cons a l => rfl
    have e3 : (M.toList == ([] : List UInt8)) = false := by rw [toList_bs, beq_eq_false_iff_ne]; exact hne
    have hmore := hpc.2 (bs M) hne
    rw [← bs_append, ← size_bs] at hmore
    have hz : (T ++ M).size = T.size + M.size := ByteArray.size_append
    have HPM := Aside0.mk (fun W => parse_bad (T ++ M) (by rw [hz]; exact hTs) W _ hmore)
    rw [hz, Nat.add_sub_cancel] at HPM
    have b1 : (9223372036854775807 < T.size + M.size) = False := eq_false (by omega)
    clear hm hpc hbT hsT hT h1 h2 hc1 hc2 hM hTs hne hmore hz
    by_cases k1 : cut < 0
    · have t1 : decide (cut < 0) = true := decide_eq_true k1
      clear k1
      go_enter Try.func7, Try.ntmps7
      go_wp2_with (first | (go_at_call 8; generalize hW0 : World.alloc w _ = w0; have hb0 := below_alloc1 hW0; have z0 := heap_alloc_new w (.cells #[.string n1, .slice A1 d1.length c1, .slice A2 xs.length c2] 26); rw [hW0] at z0; refine (awake_calls w0).mono ?_; rintro e w1 ⟨rfl, hb1⟩; have HB1 := Aside0.mk (hb0.trans (hb1.mono hb0.size)); have z1 := (hb1.block _ (Array.getElem?_eq_some_iff.1 z0).1).trans z0; have y0 : w1.cell? ⟨w.heap.size, 0, none⟩ = some (.string n1) := (by simp [World.cell?, z1]); have y1 : w1.cell? ⟨w.heap.size, 1, none⟩ = some (.slice A1 d1.length c1) := (by simp [World.cell?, z1]); have y2 : w1.cell? ⟨w.heap.size, 2, none⟩ = some (.slice A2 xs.length c2) := (by simp [World.cell?, z1]); clear hb0 hb1 hW0 z0 z1) | (go_at_call 14; refine (HPR.out _ HB1.out).mono ?_; rintro e w2 ⟨rfl, hb2⟩; have HB2 := Aside0.mk (HB1.out.trans (hb2.mono HB1.out.size)); clear hb2 y0 y1 y2) | (go_at_call 9; ((with_reducible refine (HPM.out _).mono ?_)); rintro e w3 ⟨g3, rfl, hg3, hb3⟩; have HB3 := Aside0.mk (HB2.out.trans (hb3.mono HB2.out.size)); have HG3 := Aside0.mk hg3; clear hb3 hg3) | (go_at_call 13; generalize hW4 : World.alloc w3 _ = w4; have hb4 := below_alloc1 hW4; refine (fault_some g3 210 _ w4 ((hb4.block _ (Array.getElem?_eq_some_iff.1 HG3.out).1).trans HG3.out)).mono ?_; rintro e w5 ⟨rfl, hb5⟩; have HB5 := Aside0.mk (HB3.out.trans ((hb4.trans (hb5.mono hb4.size)).mono HB3.out.size)); clear hb4 hb5 hW4))
      go_ret
      exact ⟨rfl, HB5.out⟩
    · have t1 : decide (cut < 0) = false := decide_eq_false k1
      by_cases k2 : (T.size : Int) ≤ cut
      · have t2 : decide ((T.size : Int) ≤ cut) = true := decide_eq_true k2
        clear k1 k2
        go_enter Try.func7, Try.ntmps7
        go_wp2_with (first | (go_at_call 8; generalize hW0 : World.alloc w _ = w0; have hb0 := below_alloc1 hW0; have z0 := heap_alloc_new w (.cells #[.string n1, .slice A1 d1.length c1, .slice A2 xs.length c2] 26); rw [hW0] at z0; refine (awake_calls w0).mono ?_; rintro e w1 ⟨rfl, hb1⟩; have HB1 := Aside0.mk (hb0.trans (hb1.mono hb0.size)); have z1 := (hb1.block _ (Array.getElem?_eq_some_iff.1 z0).1).trans z0; have y0 : w1.cell? ⟨w.heap.size, 0, none⟩ = some (.string n1) := (by simp [World.cell?, z1]); have y1 : w1.cell? ⟨w.heap.size, 1, none⟩ = some (.slice A1 d1.length c1) := (by simp [World.cell?, z1]); have y2 : w1.cell? ⟨w.heap.size, 2, none⟩ = some (.slice A2 xs.length c2) := (by simp [World.cell?, z1]); clear hb0 hb1 hW0 z0 z1) | (go_at_call 14; refine (HPR.out _ HB1.out).mono ?_; rintro e w2 ⟨rfl, hb2⟩; have HB2 := Aside0.mk (HB1.out.trans (hb2.mono HB1.out.size)); clear hb2 y0 y1 y2) | (go_at_call 9; ((with_reducible refine (HPM.out _).mono ?_)); rintro e w3 ⟨g3, rfl, hg3, hb3⟩; have HB3 := Aside0.mk (HB2.out.trans (hb3.mono HB2.out.size)); have HG3 := Aside0.mk hg3; clear hb3 hg3) | (go_at_call 13; generalize hW4 : World.alloc w3 _ = w4; have hb4 := below_alloc1 hW4; refine (fault_some g3 210 _ w4 ((hb4.block _ (Array.getElem?_eq_some_iff.1 HG3.out).1).trans HG3.out)).mono ?_; rintro e w5 ⟨rfl, hb5⟩; have HB5 := Aside0.mk (HB3.out.trans ((hb4.trans (hb5.mono hb4.size)).mono HB3.out.size)); clear hb4 hb5 hW4))
        go_ret
        exact ⟨rfl, HB5.out⟩
      · have t2 : decide ((T.size : Int) ≤ cut) = false := decide_eq_false k2
        obtain ⟨p, rfl⟩ := Int.eq_ofNat_of_zero_le (show 0 ≤ cut by omega)
        have hpl : p < T.size := by have : ((p : Nat) : Int) < (T.size : Int) := (by omega); omega
        obtain ⟨X, hXe⟩ : ∃ X, T.extract 0 p = X := ⟨_, rfl⟩
        have hXs : X.size = p := by rw [← hXe]; exact size_take T p (by omega)
        have hXp : parseL (bs X) = .bad 0 := by rw [← hXe, bs_take]; exact HCUT.out p hpl
        have HPC := Aside0.mk (fun W => parse_bad X (by omega) W 0 hXp)
        rw [hXs, Nat.sub_zero] at HPC
        have HXE := Aside0.mk hXe
        have f3 : (0 ≤ (p : Int)) = True := eq_true (by omega)
        have f4 : ((p : Int) ≤ (T.size : Int)) = True := eq_true (by omega)
        have f5 : (p ≤ T.size) = True := eq_true (by omega)
        have f6 : decide (T.size ≤ p) = false := decide_eq_false (by omega)
        clear k1 k2 hXe hXs hXp hpl
        go_enter Try.func7, Try.ntmps7
        go_wp2_with (first | (go_at_call 8; generalize hW0 : World.alloc w _ = w0; have hb0 := below_alloc1 hW0; have z0 := heap_alloc_new w (.cells #[.string n1, .slice A1 d1.length c1, .slice A2 xs.length c2] 26); rw [hW0] at z0; refine (awake_calls w0).mono ?_; rintro e w1 ⟨rfl, hb1⟩; have HB1 := Aside0.mk (hb0.trans (hb1.mono hb0.size)); have z1 := (hb1.block _ (Array.getElem?_eq_some_iff.1 z0).1).trans z0; have y0 : w1.cell? ⟨w.heap.size, 0, none⟩ = some (.string n1) := (by simp [World.cell?, z1]); have y1 : w1.cell? ⟨w.heap.size, 1, none⟩ = some (.slice A1 d1.length c1) := (by simp [World.cell?, z1]); have y2 : w1.cell? ⟨w.heap.size, 2, none⟩ = some (.slice A2 xs.length c2) := (by simp [World.cell?, z1]); clear hb0 hb1 hW0 z0 z1) | (go_at_call 14; refine (HPR.out _ HB1.out).mono ?_; rintro e w2 ⟨rfl, hb2⟩; have HB2 := Aside0.mk (HB1.out.trans (hb2.mono HB1.out.size)); clear hb2 y0 y1 y2) | (go_at_call 9; ((with_reducible refine (HPM.out _).mono ?_)); rintro e w3 ⟨g3, rfl, hg3, hb3⟩; have HB3 := Aside0.mk (HB2.out.trans (hb3.mono HB2.out.size)); have HG3 := Aside0.mk hg3; clear hb3 hg3) | (go_at_call 9; rw [HXE.out]; refine (HPC.out _).mono ?_; rintro e w6 ⟨g6, rfl, hg6, hb6⟩; have HB6 := Aside0.mk (HB5.out.trans (hb6.mono HB5.out.size)); have HG6 := Aside0.mk hg6; clear hb6 hg6) | (go_at_call 13; generalize hW7 : World.alloc w6 _ = w7; have hb7 := below_alloc1 hW7; have z7 := heap_alloc_new w6 (.cells #[.string ⟨#[]⟩, .slice none 0 0, .slice none 0 0] 26); rw [hW7] at z7; refine (fault_some g6 210 _ w7 ((hb7.block _ (Array.getElem?_eq_some_iff.1 HG6.out).1).trans HG6.out)).mono ?_; rintro e w8 ⟨rfl, hb8⟩; have HB8 := Aside0.mk (HB6.out.trans ((hb7.trans (hb8.mono hb7.size)).mono HB6.out.size)); have z8 := (hb8.block _ (Array.getElem?_eq_some_iff.1 z7).1).trans z7; have u0 : w8.cell? ⟨w6.heap.size, 0, none⟩ = some (.string ⟨#[]⟩) := (by simp [World.cell?, z8]); have u1 : w8.cell? ⟨w6.heap.size, 1, none⟩ = some (.slice none 0 0) := (by simp [World.cell?, z8]); have u2 : w8.cell? ⟨w6.heap.size, 2, none⟩ = some (.slice none 0 0) := (by simp [World.cell?, z8]); clear hb7 hb8 hW7 z7 z8) | (go_at_call 13; generalize hW4 : World.alloc w3 _ = w4; have hb4 := below_alloc1 hW4; refine (fault_some g3 210 _ w4 ((hb4.block _ (Array.getElem?_eq_some_iff.1 HG3.out).1).trans HG3.out)).mono ?_; rintro e w5 ⟨rfl, hb5⟩; have HB5 := Aside0.mk (HB3.out.trans ((hb4.trans (hb5.mono hb4.size)).mono HB3.out.size)); clear hb4 hb5 hW4) | (go_at_call 15; refine (same_empty _).mono ?_; rintro e w9 ⟨rfl, hb9⟩; have HB9 := Aside0.mk (HB8.out.trans (hb9.mono HB8.out.size)); clear hb9))
        go_ret
        exact ⟨rfl, HB9.out⟩
end Go.Proofs.Ytdkkgeibifpgiaa.Rc
namespace Go.Proofs.Ytdkkgeibifpgiaa.Q
open Go.RowKit Go.Proofs.YtdkkgeibifpgiaaW.PrintWords Go.Proofs.Ytdkkgeibifpgiaa.Bytes Go.Proofs.Ytdkkgeibifpgiaa.Rc
set_option linter.unusedVariables false
def depotlaw21_RecipeCuts.f (a0_0 : ByteArray) (l0_1 : List ByteArray) (l0_2 : List (S47)) (a1 : Int) (a2 : ByteArray) : Option Bool := if (printL (a0_0, l0_1, l0_2)).length + a2.size ≤ 1099511627776 then some true else none
theorem depotlaw21_RecipeCuts.calls (a0_0 : ByteArray) (A0_1 : Option Addr) (c0_1 : Nat) (l0_1 : List ByteArray) (A0_2 : Option Addr) (c0_2 : Nat) (l0_2 : List (S47)) (a1 : Int) (a2 : ByteArray) (r : Bool) (w : World) (hr0_1 : Kd.C Kd.string w A0_1 l0_1.length l0_1) (hc0_1 : l0_1.length ≤ c0_1) (hr0_2 : Kd.C k47 w A0_2 l0_2.length l0_2) (hc0_2 : l0_2.length ≤ c0_2) (h : depotlaw21_RecipeCuts.f a0_0 l0_1 l0_2 a1 a2 = some r) :
    Calls Try.prog 7 #[.agg #[.string a0_0, .slice A0_1 l0_1.length c0_1, .slice A0_2 l0_2.length c0_2], .int .i64 a1, .string a2] w fun e w' => e = .returned (.bool r) ∧ Below w.heap.size w w' := by
  unfold depotlaw21_RecipeCuts.f at h
  split at h
  case isFalse => cases h
  case isTrue hc =>
    obtain rfl := Option.some.inj h
    exact cuts_walk a0_0 A0_1 c0_1 l0_1 A0_2 c0_2 l0_2 a1 a2 w hr0_1 hc0_1 hr0_2 hc0_2 hc
end Go.Proofs.Ytdkkgeibifpgiaa.Q
/- By a program of this session's: a plain Lean function for a Go function, and its contract. -/
set_option linter.unusedVariables false
namespace Go.Proofs.Ytdkkgeibifpgiaa.Q
open Go.RowKit Go.Proofs.YtdkkgeibifpgiaaW.PrintWords Go.Proofs.YtdkkgeibifpgiaaW.PrintLast
/-- What is left of the statement: no Go, no memory. -/
def depotlaw21_RecipeCuts.Pure : Prop := ∀ (x0 : S26) (x1 : Int) (x2 : ByteArray), (∀ n ∈ ([((x0).f0).size] ++ (((((x0).f1).length * Try.prog.bytesOf 9) :: ((x0).f1).flatMap (fun y13 => [(y13).size])) ++ ((((x0).f2).length * Try.prog.bytesOf 47) :: ((x0).f2).flatMap (fun y14 => ([((y14).f0).size] ++ ((((y14).f1).length * Try.prog.bytesOf 9) :: ((y14).f1).flatMap (fun y15 => [(y15).size]))))))), n ≤ 140737488351232) → (((x0).f0).size ≤ maxLen ∧ ((((x0).f1).length ≤ maxLen ∧ ∀ y13 ∈ (x0).f1, (y13).size ≤ maxLen) ∧ (((x0).f2).length ≤ maxLen ∧ ∀ y14 ∈ (x0).f2, (((y14).f0).size ≤ maxLen ∧ (((y14).f1).length ≤ maxLen ∧ ∀ y15 ∈ (y14).f1, (y15).size ≤ maxLen))))) → (Lit.int .i64 x1).wf = true → x2.size ≤ 140737488351232 → (((((x0).f0).size + 1) + (((((x0).f1).map (fun y13 => ((y13).size + 1))).sum + 1) + ((((x0).f2).map (fun y14 => (((((y14).f0).size + 1) + ((((y14).f1).map (fun y15 => ((y15).size + 1))).sum + 1)) + 1))).sum + 1))) + 1) + 1 + ((x2).size + 1) ≤ 1048576 → depotlaw21_RecipeCuts.f (x0.f0) (x0.f1) (x0.f2) (x1) (x2) = some true
end Go.Proofs.Ytdkkgeibifpgiaa.Q
/- The recipe's text is no longer than three times its bulk. -/
namespace Go.Proofs.Ytdkkgeibifpgiaa.Rc
open Go.RowKit Go.Proofs.YtdkkgeibifpgiaaW.PrintWords Go.Proofs.Ytdkkgeibifpgiaa.Bytes Go.Proofs.Ytdkkgeibifpgiaa.Q
set_option linter.unusedVariables false
set_option linter.unusedSimpArgs false

theorem comma_sum {α : Type} (f : α → List UInt8) (g : α → Nat) (l : List α) (h : ∀ x ∈ l, (f x).length + 1 ≤ 3 * g x) : (commaL (l.map f)).length ≤ 3 * (l.map g).sum := by
  cases l with
  | nil => simp [commaL]
  | cons x xs =>
    have hx := h x (by simp)
    have hr : ((xs.map f).flatMap (44 :: ·)).length ≤ 3 * (xs.map g).sum := by
      have h' : ∀ y ∈ xs, (f y).length + 1 ≤ 3 * g y := fun y hy => h y (by simp [hy])
      clear h hx
      induction xs with
      | nil => simp
      | cons y ys ih =>
        have h1 := h' y (by simp)
        have h2 := ih (fun z hz => h' z (by simp [hz]))
        rw [List.map_cons, List.flatMap_cons, List.length_append, List.map_cons, List.sum_cons]
        simp only [List.length_cons]
        omega
    rw [List.map_cons, commaL, List.length_append, List.map_cons, List.sum_cons]
    omega
theorem deps_bulk (l : List ByteArray) : (commaL (l.map quoteB)).length ≤ 3 * (l.map (fun y => y.size + 1)).sum := comma_sum _ _ l (fun x _ => by have := quoteB_le x; omega)
theorem step_bulk (s : S47) : (stepP s).length + 1 ≤ 3 * ((s.f0.size + 1) + ((s.f1.map (fun y => y.size + 1)).sum + 1) + 1) := by
  have h0 := quoteB_le s.f0
  have h1 : (stepP s).length = (commaL ((s.f0 :: s.f1).map quoteB)).length + 2 := by simp [stepP]
  have h2 := deps_bulk (s.f0 :: s.f1)
  simp only [List.map_cons, List.sum_cons] at h1 h2
  omega
theorem print_bulk (n : ByteArray) (d : List ByteArray) (xs : List S47) : (printL (n, d, xs)).length ≤ 3 * ((n.size + 1) + ((d.map (fun y => y.size + 1)).sum + 1) + ((xs.map (fun s => (s.f0.size + 1) + ((s.f1.map (fun y => y.size + 1)).sum + 1) + 1)).sum + 1)) + 20 := by
  have hlen : (printL (n, d, xs)).length = 7 + ((quoteB n).length + (1 + ((1 + ((commaL (d.map quoteB)).length + 1)) + (1 + ((1 + ((commaL (xs.map stepP)).length + 1)) + 1))))) := by simp [printL]; omega
  have h0 := quoteB_le n
  have h1 := deps_bulk d
  have h2 := comma_sum stepP (fun s => (s.f0.size + 1) + ((s.f1.map (fun y => y.size + 1)).sum + 1) + 1) xs (fun s _ => step_bulk s)
  omega
end Go.Proofs.Ytdkkgeibifpgiaa.Rc
/- What is left of RecipeCuts: its bound. -/
namespace Go.Proofs.Ytdkkgeibifpgiaa.Q
open Go.RowKit Go.Proofs.YtdkkgeibifpgiaaW.PrintWords
theorem Pure.RecipeCuts : depotlaw21_RecipeCuts.Pure := fun x0 x1 x2 _ _ _ _ h => by
  have := Rc.print_bulk x0.f0 x0.f1 x0.f2
  unfold depotlaw21_RecipeCuts.f
  rw [if_pos (by omega)]
end Go.Proofs.Ytdkkgeibifpgiaa.Q
