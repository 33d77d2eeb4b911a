/- Texts of this claim, put together: Q49, Q50, Q51, Q52, ScanRefs, ScanObj, Q58, Q59, Q56, ScanFoundRef, ExtScPy, Opens, Upto. -/
import Derived.Test.YtbllmpfdhcbkpaaCScanPlays1
import Derived.Test.YtbllmpfdhcbkpaaRows
import Derived.Test.YtbllmpfdhcbkpaaWWords
import Derived.Test.YtbllmpfdhcbkpaaWLast
import Derived.Deep.Slices
import Derived.ProofKit
import Derived.SizedLaws
import Derived.Test.YtbllmpfdhcbkpaaBytes
/- By a program of this session's: a plain Lean function for a Go function, and its contract. -/
namespace Go.Proofs.Ytbllmpfdhcbkpaa.Q
open Go.RowKit Go.Proofs.YtbllmpfdhcbkpaaW.PrintWords Go.Proofs.YtbllmpfdhcbkpaaW.PrintLast Go.Proofs.YtbllmpfdhcbkpaaW.PrintMore
attribute [local go_sem] max2_int min2_int max_two min_two max_three min_three max_four min_four Go.Proofs.Ytbllmpfdhcbkpaa.Ord.str_leq Go.Proofs.Ytbllmpfdhcbkpaa.Ord.str_gtr Go.Proofs.Ytbllmpfdhcbkpaa.Ord.str_geq   -- for this text's walks alone
set_option linter.unusedVariables false
set_option linter.unusedSimpArgs false

/-! ### depotref14_Wanted: function 21 -/
def depotref14_Wanted.l0 : Nat → List ByteArray → Int → Option (Int)
  | 0, _, _ => none
  | k + 1, x0, x3 => if x3 < (x0.length : Int) then (if 0 ≤ x3 then ((depotref13_CheckHash.f k (rdOf ByteArray.empty x0 x3)).bind fun t238 => (if t238 = 0 then (depotref14_Wanted.l0 k x0 (wrap64 (x3 + 1))) else (some t238))) else (none)) else (some 0)
def depotref14_Wanted.f (k : Nat) (l0 : List ByteArray) : Option (Int) := depotref14_Wanted.l0 k l0 0
theorem depotref14_Wanted.mono_l : ∀ k, (∀ y0 y1, LeO (depotref14_Wanted.l0 k y0 y1) (depotref14_Wanted.l0 (k + 1) y0 y1))
  | 0 => fun _ _ r h => by simp [depotref14_Wanted.l0] at h
  | k + 1 => by
    have ih0 := depotref14_Wanted.mono_l k
    · intro y0 y1
      unfold depotref14_Wanted.l0
      repeat' first
      | (with_reducible exact ih0 _ _)
      | (with_reducible exact depotref13_CheckHash.mono _ _)
      | (with_reducible exact LeO.refl _)
      | (with_reducible exact LeO.none _)
      | (with_reducible refine LeO.ite ?_ ?_)
      | (with_reducible refine LeO.bind ?_ (fun _ => ?_))
      | exact ih0 _ _
      | exact depotref13_CheckHash.mono _ _
      | exact LeO.none _
      | refine LeO.ite ?_ ?_
      | refine LeO.bind ?_ (fun _ => ?_)
theorem depotref14_Wanted.mono : ∀ a0 k, LeO (depotref14_Wanted.f k a0) (depotref14_Wanted.f (k + 1) a0) := by
  intro a0 k
  have ih0 := depotref14_Wanted.mono_l k
  unfold depotref14_Wanted.f
  repeat' first
      | (with_reducible exact ih0 _ _)
      | (with_reducible exact depotref13_CheckHash.mono _ _)
      | (with_reducible exact LeO.refl _)
      | (with_reducible exact LeO.none _)
      | (with_reducible refine LeO.ite ?_ ?_)
      | (with_reducible refine LeO.bind ?_ (fun _ => ?_))
      | exact ih0 _ _
      | exact depotref13_CheckHash.mono _ _
      | exact LeO.none _
      | refine LeO.ite ?_ ?_
      | refine LeO.bind ?_ (fun _ => ?_)
set_option maxHeartbeats 8000000 in
set_option maxRecDepth 100000 in
theorem depotref14_Wanted.calls (k : Nat) (A0 : Option Addr) (c0 : Nat) (l0 : List ByteArray) (r : Int) (w : World) (hr0 : Kd.C Kd.string w A0 l0.length l0) (hc0 : l0.length ≤ c0) (h : depotref14_Wanted.f k l0 = some r) :
    Calls Try.prog 21 #[.slice A0 l0.length c0] w fun e w' => e = .returned (.int .i64 r) ∧ Drawn0 w w' := by
  have HR0 := Aside0.mk hr0
  have HC0 := Aside0.mk hc0
  clear hr0 hc0
  have H : (depotref14_Wanted.l0 k l0 0) = some r := h
  clear h
  have H' := Aside0.mk H
  clear H
  go_enter Try.func21, Try.ntmps21
  go_wp2
  go_loopg [3] k (fun kq v3 w' => ∃ (x3_1 : Int), v3 = .int .i64 x3_1 ∧ Aside0 (depotref14_Wanted.l0 kq l0 x3_1 = some r) ∧ Aside0 (kq ≤ k) ∧ Drawn0 w w')
  case atStart => exact ⟨(0), (by first | rfl | (simp; done) | (simp [*]; done)), H', ⟨Nat.le_refl _⟩, by repeat (first | exact Drawn0.refl _ | apply Drawn0.step)⟩
  case round =>
    clear H'
    obtain ⟨x3_1, rfl, HA, HK1, ⟨m1, rfl⟩⟩ := hrel
    cases gk with
    | zero => exact absurd HA.out (by simp [depotref14_Wanted.l0])
    | succ k1 =>
      have H := HA.out
      clear HA
      simp only [depotref14_Wanted.l0] at H
      by_cases c2 : x3_1 < (l0.length : Int)
      · rw [if_pos c2] at H
        have c2b0 : decide (x3_1 < (l0.length : Int)) = true := decide_eq_true c2
        clear c2
        by_cases c3 : 0 ≤ x3_1
        · rw [if_pos c3] at H
          have c3b0 : decide (0 ≤ x3_1) = true := decide_eq_true c3
          clear c3
          replace H := Option.bind_eq_some_iff.mp H
          obtain ⟨t238, A40, H⟩ := H
          replace H : (if t238 = 0 then (depotref14_Wanted.l0 k1 l0 (wrap64 (x3_1 + 1))) else (some t238)) = some r := H
          have A4 := Aside0.mk A40
          clear A40
          by_cases c5 : t238 = 0
          · rw [if_pos c5] at H
            have c5b0 : (t238 == 0) = true := beq_iff_eq.mpr c5
            have c5b1 : (t238 != 0) = false := bne_eq_false_iff_eq.mpr c5
            clear c5
            have H' := Aside0.mk H
            clear H
            have p237 : 0 ≤ (x3_1 : Int) := of_decide_eq_true (by first | (with_reducible assumption) | assumption)
            have q237 : x3_1 < (l0.length : Int) := of_decide_eq_true (by first | (with_reducible assumption) | assumption)
            obtain ⟨ad237, e237, hx237_0⟩ := Kd.at_string HR0.out x3_1 p237 q237
            cases e237
            replace p237 := eq_true p237
            replace q237 := eq_true q237
            go_wp2_with (first | ((with_reducible refine gate_callee (f := 33) rfl ?_); refine goesL_ (some 15) rfl rfl Try.func33 (by kernel_rfl) rfl #[.string (rdOf ByteArray.empty l0 x3_1)] rfl (by (try simp only [List.map_toArray, List.map_cons, List.map_nil]); first | done | rfl | (simp only [List.length_drop, List.length_take]; rfl)) ?_; (with_reducible refine (depotref13_CheckHash.calls k1 (rdOf ByteArray.empty l0 x3_1) t238 _ A4.out).mono ?_); rintro e w' ⟨rfl, ⟨nd, rfl⟩⟩; refine ⟨_, rfl, ?_⟩))
            go_roundg k1
            case measure => have := HK1.out; omega
            case rel => exact ⟨(wrap64 (x3_1 + 1)), (by first | rfl | (simp; done) | (simp [*]; done)), H', ⟨by have := HK1.out; omega⟩, by repeat (first | exact Drawn0.refl _ | apply Drawn0.step)⟩
          · rw [if_neg c5] at H
            have c5b0 : (t238 == 0) = false := beq_eq_false_iff_ne.mpr c5
            have c5b1 : (t238 != 0) = true := bne_iff_ne.mpr c5
            obtain rfl := Option.some.inj H
            have p237 : 0 ≤ (x3_1 : Int) := of_decide_eq_true (by first | (with_reducible assumption) | assumption)
            have q237 : x3_1 < (l0.length : Int) := of_decide_eq_true (by first | (with_reducible assumption) | assumption)
            obtain ⟨ad237, e237, hx237_0⟩ := Kd.at_string HR0.out x3_1 p237 q237
            cases e237
            replace p237 := eq_true p237
            replace q237 := eq_true q237
            go_wp2_with (first | ((with_reducible refine gate_callee (f := 33) rfl ?_); refine goesL_ (some 15) rfl rfl Try.func33 (by kernel_rfl) rfl #[.string (rdOf ByteArray.empty l0 x3_1)] rfl (by (try simp only [List.map_toArray, List.map_cons, List.map_nil]); first | done | rfl | (simp only [List.length_drop, List.length_take]; rfl)) ?_; (with_reducible refine (depotref13_CheckHash.calls k1 (rdOf ByteArray.empty l0 x3_1) t238 _ A4.out).mono ?_); rintro e w' ⟨rfl, ⟨nd, rfl⟩⟩; refine ⟨_, rfl, ?_⟩))
            go_ret
            exact ⟨by first | rfl | (simp; done) | (simp [*]; done), by repeat (first | exact Drawn0.refl _ | apply Drawn0.step)⟩
        · rw [if_neg c3] at H
          exact absurd H (by simp)
      · rw [if_neg c2] at H
        have c2b0 : decide (x3_1 < (l0.length : Int)) = false := decide_eq_false c2
        clear c2
        obtain rfl := Option.some.inj H
        go_wp2
        go_ret
        exact ⟨by first | rfl | (simp; done) | (simp [*]; done), by repeat (first | exact Drawn0.refl _ | apply Drawn0.step)⟩

end Go.Proofs.Ytbllmpfdhcbkpaa.Q
/- By a program of this session's: a plain Lean function for a Go function, and its contract. -/
namespace Go.Proofs.Ytbllmpfdhcbkpaa.Q
open Go.RowKit Go.Proofs.YtbllmpfdhcbkpaaW.PrintWords Go.Proofs.YtbllmpfdhcbkpaaW.PrintLast Go.Proofs.YtbllmpfdhcbkpaaW.PrintMore
attribute [local go_sem] max2_int min2_int max_two min_two max_three min_three max_four min_four Go.Proofs.Ytbllmpfdhcbkpaa.Ord.str_leq Go.Proofs.Ytbllmpfdhcbkpaa.Ord.str_gtr Go.Proofs.Ytbllmpfdhcbkpaa.Ord.str_geq   -- for this text's walks alone
set_option linter.unusedVariables false
set_option linter.unusedSimpArgs false

/-! ### depotref14_At: function 24 -/
def depotref14_At.f (a0 : ByteArray) (a1 : ByteArray) (a2 : Int) : Option (Bool) := if (wrap64 (a2 + (a1.size : Int))) ≤ (a0.size : Int) then (if 0 ≤ a2 then (if a2 ≤ (wrap64 (a2 + (a1.size : Int))) then (some ((a0.extract (a2 : Int).toNat ((wrap64 (a2 + (a1.size : Int))) : Int).toNat).toList == a1.toList)) else (none)) else (none)) else (some false)
set_option maxHeartbeats 8000000 in
set_option maxRecDepth 100000 in
theorem depotref14_At.calls (a0 : ByteArray) (a1 : ByteArray) (a2 : Int) (r : Bool) (w : World) (h : depotref14_At.f a0 a1 a2 = some r) :
    Calls Try.prog 24 #[.string a0, .string a1, .int .i64 a2] w fun e w' => e = .returned (.bool r) ∧ Drawn0 w w' := by
  have H : (if (wrap64 (a2 + (a1.size : Int))) ≤ (a0.size : Int) then (if 0 ≤ a2 then (if a2 ≤ (wrap64 (a2 + (a1.size : Int))) then (some ((a0.extract (a2 : Int).toNat ((wrap64 (a2 + (a1.size : Int))) : Int).toNat).toList == a1.toList)) else (none)) else (none)) else (some false)) = some r := h
  clear h
  by_cases c4 : (wrap64 (a2 + (a1.size : Int))) ≤ (a0.size : Int)
  · rw [if_pos c4] at H
    have c4b0 : decide ((wrap64 (a2 + (a1.size : Int))) ≤ (a0.size : Int)) = true := decide_eq_true c4
    clear c4
    by_cases c5 : 0 ≤ a2
    · rw [if_pos c5] at H
      have c5b0 := eq_true c5
      have c5b1 : decide (0 ≤ a2) = true := decide_eq_true c5
      clear c5
      by_cases c6 : a2 ≤ (wrap64 (a2 + (a1.size : Int)))
      · rw [if_pos c6] at H
        have c6b0 := eq_true c6
        have c6b1 : decide (a2 ≤ (wrap64 (a2 + (a1.size : Int)))) = true := decide_eq_true c6
        have c7b0 := eq_true (of_decide_eq_true (by first | (with_reducible assumption) | assumption) : (wrap64 (a2 + (a1.size : Int))) ≤ (a0.size : Int))
        obtain rfl := Option.some.inj H
        go_enter Try.func24, Try.ntmps24
        go_wp2
        go_ret
        exact ⟨by first | rfl | (simp; done) | (simp [*]; done), by repeat (first | exact Drawn0.refl _ | apply Drawn0.step)⟩
      · rw [if_neg c6] at H
        exact absurd H (by simp)
    · rw [if_neg c5] at H
      exact absurd H (by simp)
  · rw [if_neg c4] at H
    have c4b0 : decide ((wrap64 (a2 + (a1.size : Int))) ≤ (a0.size : Int)) = false := decide_eq_false c4
    clear c4
    obtain rfl := Option.some.inj H
    go_enter Try.func24, Try.ntmps24
    go_wp2
    go_ret
    exact ⟨by first | rfl | (simp; done) | (simp [*]; done), by repeat (first | exact Drawn0.refl _ | apply Drawn0.step)⟩

end Go.Proofs.Ytbllmpfdhcbkpaa.Q
/- By a program of this session's: a plain Lean function for a Go function, and its contract. -/
namespace Go.Proofs.Ytbllmpfdhcbkpaa.Q
open Go.RowKit Go.Proofs.YtbllmpfdhcbkpaaW.PrintWords Go.Proofs.YtbllmpfdhcbkpaaW.PrintLast Go.Proofs.YtbllmpfdhcbkpaaW.PrintMore
attribute [local go_sem] max2_int min2_int max_two min_two max_three min_three max_four min_four Go.Proofs.Ytbllmpfdhcbkpaa.Ord.str_leq Go.Proofs.Ytbllmpfdhcbkpaa.Ord.str_gtr Go.Proofs.Ytbllmpfdhcbkpaa.Ord.str_geq   -- for this text's walks alone
set_option linter.unusedVariables false
set_option linter.unusedSimpArgs false

/-! ### depotref14_Rewrite: function 11 -/
def depotref14_Rewrite.l0 : Nat → ByteArray → ByteArray → ByteArray → List Int → List Int → Int → Option (ByteArray × List Int × Int)
  | 0, _, _, _, _, _, _ => none
  | k + 1, x0, x1, x2, x10, x11, x12 => if x12 < (x0.size : Int) then ((depotref14_At.f x0 x1 x12).bind fun t243 => (if t243 = true then (if x10.length + x2.size < 140737488355328 then (if x11.length < 17592186044416 then (depotref14_Rewrite.l0 k x0 x1 x2 (x10 ++ bytesOf x2) (x11 ++ [x12]) (wrap64 (x12 + 32))) else (none)) else (none)) else (if 0 ≤ x12 then (if x10.length < 140737488355328 then (depotref14_Rewrite.l0 k x0 x1 x2 (x10 ++ [bt x0 x12]) x11 (wrap64 (x12 + 1))) else (none)) else (none)))) else (some (strOfNums x10, x11, 0))
def depotref14_Rewrite.f (k : Nat) (a0 : ByteArray) (a1 : ByteArray) (a2 : ByteArray) : Option (ByteArray × List Int × Int) := (depotref14_Wanted.f k (([a1, a2] : List ByteArray))).bind fun t242 => (if t242 = 0 then (depotref14_Rewrite.l0 k a0 a1 a2 ([] : List Int) ([] : List Int) 0) else (some ((⟨#[]⟩ : ByteArray), ([] : List Int), t242)))
theorem depotref14_Rewrite.mono_l : ∀ k, (∀ y0 y1 y2 y3 y4 y5, LeO (depotref14_Rewrite.l0 k y0 y1 y2 y3 y4 y5) (depotref14_Rewrite.l0 (k + 1) y0 y1 y2 y3 y4 y5))
  | 0 => fun _ _ _ _ _ _ r h => by simp [depotref14_Rewrite.l0] at h
  | k + 1 => by
    have ih0 := depotref14_Rewrite.mono_l k
    · intro y0 y1 y2 y3 y4 y5
      unfold depotref14_Rewrite.l0
      repeat' first
      | (with_reducible exact ih0 _ _ _ _ _ _)
      | (with_reducible exact depotref14_Wanted.mono _ _)
      | (with_reducible exact LeO.refl _)
      | (with_reducible exact LeO.none _)
      | (with_reducible refine LeO.ite ?_ ?_)
      | (with_reducible refine LeO.bind ?_ (fun _ => ?_))
      | exact ih0 _ _ _ _ _ _
      | exact depotref14_Wanted.mono _ _
      | exact LeO.none _
      | refine LeO.ite ?_ ?_
      | refine LeO.bind ?_ (fun _ => ?_)
theorem depotref14_Rewrite.mono : ∀ a0 a1 a2 k, LeO (depotref14_Rewrite.f k a0 a1 a2) (depotref14_Rewrite.f (k + 1) a0 a1 a2) := by
  intro a0 a1 a2 k
  have ih0 := depotref14_Rewrite.mono_l k
  unfold depotref14_Rewrite.f
  repeat' first
      | (with_reducible exact ih0 _ _ _ _ _ _)
      | (with_reducible exact depotref14_Wanted.mono _ _)
      | (with_reducible exact LeO.refl _)
      | (with_reducible exact LeO.none _)
      | (with_reducible refine LeO.ite ?_ ?_)
      | (with_reducible refine LeO.bind ?_ (fun _ => ?_))
      | exact ih0 _ _ _ _ _ _
      | exact depotref14_Wanted.mono _ _
      | exact LeO.none _
      | refine LeO.ite ?_ ?_
      | refine LeO.bind ?_ (fun _ => ?_)
set_option maxHeartbeats 8000000 in
set_option maxRecDepth 100000 in
theorem depotref14_Rewrite.calls (k : Nat) (a0 : ByteArray) (a1 : ByteArray) (a2 : ByteArray) (r1 : ByteArray) (r2 : List Int) (r3 : Int) (w : World) (h : depotref14_Rewrite.f k a0 a1 a2 = some (r1, r2, r3)) :
    Calls Try.prog 11 #[.string a0, .string a1, .string a2] w fun e w' => ∃ v1_ : Value, e = .returned (.tuple #[.string r1, v1_, .int .i64 r3]) ∧ Kd.R (Kd.int .i64) 3 w' w.heap.size (fun _ => True) v1_ r2 ∧ Below w.heap.size w w' := by
  have HB := Aside0.mk (Below.refl w.heap.size w)
  have H : ((depotref14_Wanted.f k (([a1, a2] : List ByteArray))).bind fun t242 => (if t242 = 0 then (depotref14_Rewrite.l0 k a0 a1 a2 ([] : List Int) ([] : List Int) 0) else (some ((⟨#[]⟩ : ByteArray), ([] : List Int), t242)))) = some (r1, r2, r3) := h
  clear h
  obtain ⟨y239, hy239⟩ : ∃ y_ : List ByteArray, y_ = (([a1, a2] : List ByteArray)) := ⟨_, rfl⟩
  replace H : ((depotref14_Wanted.f k y239).bind fun t242 => (if t242 = 0 then (depotref14_Rewrite.l0 k a0 a1 a2 ([] : List Int) ([] : List Int) 0) else (some ((⟨#[]⟩ : ByteArray), ([] : List Int), t242)))) = some (r1, r2, r3) := by first | (rw [hy239]; with_reducible exact H) | (have H2_ := (Option.bind_some _ _).symm.trans H; rw [hy239]; with_reducible exact H2_) | (have H2_ := (Option.bind_some _ _).symm.trans H; with_reducible exact H2_) | with_reducible exact H | (rw [hy239]; exact H) | exact H
  have Ny239 := Aside0.mk hy239
  clear hy239
  replace H := Option.bind_eq_some_iff.mp H
  obtain ⟨t242, A40, H⟩ := H
  replace H : (if t242 = 0 then (depotref14_Rewrite.l0 k a0 a1 a2 ([] : List Int) ([] : List Int) 0) else (some ((⟨#[]⟩ : ByteArray), ([] : List Int), t242))) = some (r1, r2, r3) := H
  have A4 := Aside0.mk A40
  clear A40
  by_cases c5 : t242 = 0
  · rw [if_pos c5] at H
    have c5b0 : (t242 == 0) = true := beq_iff_eq.mpr c5
    have c5b1 : (t242 != 0) = false := bne_eq_false_iff_eq.mpr c5
    clear c5
    have H' := Aside0.mk H
    clear H
    go_enter Try.func11, Try.ntmps11
    go_wp2_with (first | ((with_reducible refine gate_dst (N := 15) rfl ?_); refine Kd.R_lit Kd.string _ 9 ?hg (N := 15) ?hd (xs := ([a1, a2] : List ByteArray)) (inner := [.string a1, .string a2]) (ok := fun _ => True) (okp := fun _ => True) ?hr ?hp (fun _ hk => hk) trivial (Below.refl _ _) (Nat.le_refl _) (by simp) ?_; (case hd => rfl); (case hg => rfl); (case hr => first | (go_simp; done) | (go_simp; rfl)); (case hp => exact (Reps.one (show Kd.M Kd.string _ _ _ a1 [.string a1] from rfl) (Reps.one (show Kd.M Kd.string _ _ _ a2 [.string a2] from rfl) (Reps.none _ _)))); intro v240 w6 ho7 hb hg_ hnew_; clear hg_ hnew_; (first | rw [← Ny239.out] at ho7 | (simp only [Int.reduceToNat] at ho7; rw [← Ny239.out] at ho7)); have n0_ := Aside0.mk (Kd.R_lower ho7 (below_size (by repeat (first | (with_reducible first | exact HB.out | apply below_alloc | apply pw_below_drewN | apply below_drew1) | exact HB.out)))); have n1_ := Aside0.mk (below_step (by repeat (first | (with_reducible first | exact HB.out | apply below_alloc | apply pw_below_drewN | apply below_drew1) | exact HB.out)) hb); clear HB; have HO241 := n0_; have HB := n1_; clear n0_ n1_; clear hb ho7; obtain ⟨Ao8, co8, eo8⟩ := Kd.R_slice HO241.out; subst eo8) | ((with_reducible refine gate_callee (f := 21) rfl ?_); refine goesL_ (some 16) rfl rfl Try.func21 (by kernel_rfl) rfl #[.slice Ao8 y239.length co8] rfl (by (try simp only [List.map_toArray, List.map_cons, List.map_nil]); first | done | rfl | (simp only [List.length_drop, List.length_take]; rfl)) ?_; (with_reducible refine (depotref14_Wanted.calls k _ _ y239 t242 _ ?side1 ?side2 A4.out).mono ?_); (case side1 => repeat (first | exact (Kd.R_reads' HO241.out).2.2 | (with_reducible refine Kd.C_alloc ?_ _) | (with_reducible refine Kd.C_drewN ?_ _) | (with_reducible refine Kd.C_drew ?_))); (case side2 => exact (Kd.R_reads' HO241.out).2.1); rintro e w' ⟨rfl, ⟨nd, rfl⟩⟩; refine ⟨_, rfl, ?_⟩))
    go_loopg [10, 11, 12] k (fun kq v10 v11 v12 w' => ∃ (x10_1 : List Int) (x11_1 : List Int) (x12_1 : Int), v12 = .int .i64 x12_1 ∧ Aside0 (depotref14_Rewrite.l0 kq a0 a1 a2 x10_1 x11_1 x12_1 = some (r1, r2, r3)) ∧ Aside0 (kq ≤ k) ∧ Aside0 (Kd.R (Kd.int .u8) 5 w' w.heap.size (fun _ => True) v10 x10_1) ∧ Aside0 (Kd.R (Kd.int .i64) 3 w' w.heap.size (fun _ => True) v11 x11_1) ∧ Aside0 (Below w.heap.size w w'))
    case atStart => exact ⟨(([] : List Int)), (([] : List Int)), (0), (by first | rfl | (simp; done) | (simp [*]; done)), H', ⟨Nat.le_refl _⟩, ⟨by first | exact Kd.R_nil _ _ _ _ _ | exact Kd.N_nil _ _ _ _ _ | exact Kd.V_nil _ _ _ _ _ | exact Kd.Q_nil _ _ _ _ _ | exact Kd.S_nil _ _ _ _ _⟩, ⟨by first | exact Kd.R_nil _ _ _ _ _ | exact Kd.N_nil _ _ _ _ _ | exact Kd.V_nil _ _ _ _ _ | exact Kd.Q_nil _ _ _ _ _ | exact Kd.S_nil _ _ _ _ _⟩, ⟨by repeat (first | (with_reducible first | exact HB.out | apply below_alloc | apply pw_below_drewN | apply below_drew1) | exact HB.out)⟩⟩
    case round =>
      clear H'
      try clear c1
      try clear c2
      try clear p2
      try clear c5
      try clear c5b0
      try clear c5b1
      obtain ⟨x10_1, x11_1, x12_1, rfl, HA, HK1, HO_10, HO_11, HB⟩ := hrel
      cases gk with
      | zero => exact absurd HA.out (by simp [depotref14_Rewrite.l0])
      | succ k1 =>
        have H := HA.out
        clear HA
        simp only [depotref14_Rewrite.l0] at H
        by_cases c9 : x12_1 < (a0.size : Int)
        · rw [if_pos c9] at H
          have c9b0 : decide (x12_1 < (a0.size : Int)) = true := decide_eq_true c9
          clear c9
          replace H := Option.bind_eq_some_iff.mp H
          obtain ⟨t243, A100, H⟩ := H
          replace H : (if t243 = true then (if x10_1.length + a2.size < 140737488355328 then (if x11_1.length < 17592186044416 then (depotref14_Rewrite.l0 k1 a0 a1 a2 (x10_1 ++ bytesOf a2) (x11_1 ++ [x12_1]) (wrap64 (x12_1 + 32))) else (none)) else (none)) else (if 0 ≤ x12_1 then (if x10_1.length < 140737488355328 then (depotref14_Rewrite.l0 k1 a0 a1 a2 (x10_1 ++ [bt a0 x12_1]) x11_1 (wrap64 (x12_1 + 1))) else (none)) else (none))) = some (r1, r2, r3) := H
          have A10 := Aside0.mk A100
          clear A100
          by_cases c11 : t243 = true
          · subst c11
            have H1 : (if x10_1.length + a2.size < 140737488355328 then (if x11_1.length < 17592186044416 then (depotref14_Rewrite.l0 k1 a0 a1 a2 (x10_1 ++ bytesOf a2) (x11_1 ++ [x12_1]) (wrap64 (x12_1 + 32))) else (none)) else (none)) = some (r1, r2, r3) := by rw [if_pos rfl] at H; exact H
            clear H
            have H := H1
            clear H1
            by_cases c12 : x10_1.length + a2.size < 140737488355328
            · rw [if_pos c12] at H
              have LMc12 := Aside0.mk c12
              clear c12
              obtain ⟨y244, hy244⟩ : ∃ y_ : List Int, y_ = (x10_1 ++ bytesOf a2) := ⟨_, rfl⟩
              replace H : (if x11_1.length < 17592186044416 then (depotref14_Rewrite.l0 k1 a0 a1 a2 y244 (x11_1 ++ [x12_1]) (wrap64 (x12_1 + 32))) else (none)) = some (r1, r2, r3) := by first | (rw [hy244]; with_reducible exact H) | (have H2_ := (Option.bind_some _ _).symm.trans H; rw [hy244]; with_reducible exact H2_) | (have H2_ := (Option.bind_some _ _).symm.trans H; with_reducible exact H2_) | with_reducible exact H | (rw [hy244]; exact H) | exact H
              have Ny244 := Aside0.mk hy244
              clear hy244
              by_cases c13 : x11_1.length < 17592186044416
              · rw [if_pos c13] at H
                have LMc13 := Aside0.mk c13
                clear c13
                obtain ⟨y247, hy247⟩ : ∃ y_ : List Int, y_ = (x11_1 ++ [x12_1]) := ⟨_, rfl⟩
                replace H : (depotref14_Rewrite.l0 k1 a0 a1 a2 y244 y247 (wrap64 (x12_1 + 32))) = some (r1, r2, r3) := by first | (rw [hy247]; with_reducible exact H) | (have H2_ := (Option.bind_some _ _).symm.trans H; rw [hy247]; with_reducible exact H2_) | (have H2_ := (Option.bind_some _ _).symm.trans H; with_reducible exact H2_) | with_reducible exact H | (rw [hy247]; exact H) | exact H
                have Ny247 := Aside0.mk hy247
                clear hy247
                have H' := Aside0.mk H
                clear H
                go_wp2_with (first | ((with_reducible refine gate_callee (f := 24) rfl ?_); refine goesL_ (some 27) rfl rfl Try.func24 (by kernel_rfl) rfl #[.string a0, .string a1, .int .i64 x12_1] rfl (by (try simp only [List.map_toArray, List.map_cons, List.map_nil]); first | done | rfl | (simp only [List.length_drop, List.length_take]; rfl)) ?_; (with_reducible refine (depotref14_At.calls a0 a1 x12_1 true _ A10.out).mono ?_); rintro e w' ⟨rfl, ⟨nd, rfl⟩⟩; refine ⟨_, rfl, ?_⟩) | (at_builtin; refine print_append_str (w0 := w) w.heap.size rfl (.tmp 28) _ 36 9 5 rfl Try.underlying36 Try.underlying9 info5 u10 x10_1 a2 rfl rfl ?aO ?aB ?aS ?aL ?_; (case aB => exact (by repeat (first | (with_reducible first | exact HB.out | apply below_alloc | apply pw_below_drewN | apply below_drew1) | exact HB.out))); (case aO => exact (Kd.own_of_R (by (with_reducible repeat (first | apply Kd.R_alloc | apply Kd.R_drewN | apply Kd.R_drew)); exact HO_10.out))); (case aS => exact (below_size (by repeat (first | (with_reducible first | exact HB.out | apply below_alloc | apply pw_below_drewN | apply below_drew1) | exact HB.out)))); (case aL => have := LMc12.out; omega); intro v245 w14 ho0 hb hg; have ho := Kd.R_of_own (h1 := fun _ => rfl) (ok := fun _ => True) ho0 (fun _ _ => trivial); clear ho0; have hat := True.intro; rw [← Ny244.out] at ho; change Kd.R (Kd.int .u8) 5 w14 w.heap.size (fun _ => True) v245 y244 at ho; have n0_ := Aside0.mk (Kd.R_over' (by (with_reducible repeat (first | apply Kd.R_alloc | apply Kd.R_drewN | apply Kd.R_drew)); exact HO_11.out) (Kd.R_typed (by (with_reducible repeat (first | apply Kd.R_alloc | apply Kd.R_drewN | apply Kd.R_drew)); exact HO_10.out)) (by decide) hg); have n1_ := Aside0.mk (hb); have n2_ := Aside0.mk (ho); clear HO_11; clear HB; clear HO_10; have HO_11 := n0_; have HB := n1_; have HO246 := n2_; clear n0_ n1_ n2_; clear ho hb hg hat) | ((with_reducible refine gate_builtin (b := .append) (xs := #[.tmp 31, .tmp 33]) rfl ?_); at_builtin; refine Kd.R_append (Kd.int .i64) (w0 := w) w.heap.size rfl (.tmp 31) (.tmp 33) 23 3 (.int .i64 0) 8 rfl Try.underlying23 info3 rfl (by decide) (by omega) u11 x11_1 x12_1 [.int .i64 x12_1] (fun _ => True) (fun _ => False) rfl rfl ?aP (fun _ hk => hk.elim) ?aF ?aO ?aB ?aS ?aL ?_; (case aP => exact rfl); (case aB => exact (by repeat (first | (with_reducible first | exact HB.out | apply below_alloc | apply pw_below_drewN | apply below_drew1) | exact HB.out))); (case aF => exact (fun _ _ => trivial)); (case aO => exact (by (with_reducible repeat (first | apply Kd.R_alloc | apply Kd.R_drewN | apply Kd.R_drew)); exact HO_11.out)); (case aS => exact (below_size (by repeat (first | (with_reducible first | exact HB.out | apply below_alloc | apply pw_below_drewN | apply below_drew1) | exact HB.out)))); (case aL => have := LMc13.out; omega); intro v248 w15 ho hb hg hat; rw [← Ny247.out] at ho; have n0_ := Aside0.mk (Kd.R_over' (by (with_reducible repeat (first | apply Kd.R_alloc | apply Kd.R_drewN | apply Kd.R_drew)); exact HO246.out) (Kd.R_typed (by (with_reducible repeat (first | apply Kd.R_alloc | apply Kd.R_drewN | apply Kd.R_drew)); exact HO_11.out)) (by decide) hg); have n1_ := Aside0.mk (hb); have n2_ := Aside0.mk (ho); clear HO246; clear HB; clear HO_11; have HO246 := n0_; have HB := n1_; have HO249 := n2_; clear n0_ n1_ n2_; clear ho hb hg hat))
                go_roundg k1
                case measure => have := HK1.out; omega
                case rel => exact ⟨(y244), (y247), (wrap64 (x12_1 + 32)), (by first | rfl | (simp; done) | (simp [*]; done)), H', ⟨by have := HK1.out; omega⟩, ⟨by (with_reducible repeat (first | apply Kd.R_alloc | apply Kd.R_drewN | apply Kd.R_drew)); exact HO246.out⟩, ⟨by (with_reducible repeat (first | apply Kd.R_alloc | apply Kd.R_drewN | apply Kd.R_drew)); exact HO249.out⟩, ⟨by repeat (first | (with_reducible first | exact HB.out | apply below_alloc | apply pw_below_drewN | apply below_drew1) | exact HB.out)⟩⟩
              · rw [if_neg c13] at H
                exact absurd H (by simp)
            · rw [if_neg c12] at H
              exact absurd H (by simp)
          · replace c11 := Bool.eq_false_iff.mpr c11
            subst c11
            have H1 : (if 0 ≤ x12_1 then (if x10_1.length < 140737488355328 then (depotref14_Rewrite.l0 k1 a0 a1 a2 (x10_1 ++ [bt a0 x12_1]) x11_1 (wrap64 (x12_1 + 1))) else (none)) else (none)) = some (r1, r2, r3) := by rw [if_neg (show ¬ (false = true) by decide)] at H; exact H
            clear H
            have H := H1
            clear H1
            by_cases c16 : 0 ≤ x12_1
            · rw [if_pos c16] at H
              have c16b0 : decide (0 ≤ x12_1) = true := decide_eq_true c16
              clear c16
              by_cases c18 : x10_1.length < 140737488355328
              · rw [if_pos c18] at H
                have LMc18 := Aside0.mk c18
                clear c18
                obtain ⟨y250, hy250⟩ : ∃ y_ : List Int, y_ = (x10_1 ++ [bt a0 x12_1]) := ⟨_, rfl⟩
                replace H : (depotref14_Rewrite.l0 k1 a0 a1 a2 y250 x11_1 (wrap64 (x12_1 + 1))) = some (r1, r2, r3) := by first | (rw [hy250]; with_reducible exact H) | (have H2_ := (Option.bind_some _ _).symm.trans H; rw [hy250]; with_reducible exact H2_) | (have H2_ := (Option.bind_some _ _).symm.trans H; with_reducible exact H2_) | with_reducible exact H | (rw [hy250]; exact H) | exact H
                have Ny250 := Aside0.mk hy250
                clear hy250
                have H' := Aside0.mk H
                clear H
                go_wp2_with (first | ((with_reducible refine gate_callee (f := 24) rfl ?_); refine goesL_ (some 27) rfl rfl Try.func24 (by kernel_rfl) rfl #[.string a0, .string a1, .int .i64 x12_1] rfl (by (try simp only [List.map_toArray, List.map_cons, List.map_nil]); first | done | rfl | (simp only [List.length_drop, List.length_take]; rfl)) ?_; (with_reducible refine (depotref14_At.calls a0 a1 x12_1 false _ A10.out).mono ?_); rintro e w' ⟨rfl, ⟨nd, rfl⟩⟩; refine ⟨_, rfl, ?_⟩; have p17 : 0 ≤ (x12_1 : Int) := of_decide_eq_true (by first | (with_reducible assumption) | assumption); have q17 : x12_1 < (a0.size : Int) := of_decide_eq_true (by first | (with_reducible assumption) | assumption); have hx17 := bt_at a0 x12_1; replace p17 := eq_true p17; replace q17 := eq_true q17) | ((with_reducible refine gate_builtin (b := .append) (xs := #[.tmp 37, .tmp 41]) rfl ?_); at_builtin; refine Kd.R_append (Kd.int .u8) (w0 := w) w.heap.size rfl (.tmp 37) (.tmp 41) 36 5 (.int .u8 0) 1 rfl Try.underlying36 info5 rfl (by decide) (by omega) u10 x10_1 (bt a0 x12_1) [.int .u8 (bt a0 x12_1)] (fun _ => True) (fun _ => False) rfl rfl ?aP (fun _ hk => hk.elim) ?aF ?aO ?aB ?aS ?aL ?_; (case aP => exact rfl); (case aB => exact (by repeat (first | (with_reducible first | exact HB.out | apply below_alloc | apply pw_below_drewN | apply below_drew1) | exact HB.out))); (case aF => exact (fun _ _ => trivial)); (case aO => exact (by (with_reducible repeat (first | apply Kd.R_alloc | apply Kd.R_drewN | apply Kd.R_drew)); exact HO_10.out)); (case aS => exact (below_size (by repeat (first | (with_reducible first | exact HB.out | apply below_alloc | apply pw_below_drewN | apply below_drew1) | exact HB.out)))); (case aL => have := LMc18.out; omega); intro v251 w19 ho hb hg hat; rw [← Ny250.out] at ho; have n0_ := Aside0.mk (Kd.R_over' (by (with_reducible repeat (first | apply Kd.R_alloc | apply Kd.R_drewN | apply Kd.R_drew)); exact HO_11.out) (Kd.R_typed (by (with_reducible repeat (first | apply Kd.R_alloc | apply Kd.R_drewN | apply Kd.R_drew)); exact HO_10.out)) (by decide) hg); have n1_ := Aside0.mk (hb); have n2_ := Aside0.mk (ho); clear HO_11; clear HB; clear HO_10; have HO_11 := n0_; have HB := n1_; have HO252 := n2_; clear n0_ n1_ n2_; clear ho hb hg hat))
                go_roundg k1
                case measure => have := HK1.out; omega
                case rel => exact ⟨(y250), (x11_1), (wrap64 (x12_1 + 1)), (by first | rfl | (simp; done) | (simp [*]; done)), H', ⟨by have := HK1.out; omega⟩, ⟨by (with_reducible repeat (first | apply Kd.R_alloc | apply Kd.R_drewN | apply Kd.R_drew)); exact HO252.out⟩, ⟨by (with_reducible repeat (first | apply Kd.R_alloc | apply Kd.R_drewN | apply Kd.R_drew)); exact HO_11.out⟩, ⟨by repeat (first | (with_reducible first | exact HB.out | apply below_alloc | apply pw_below_drewN | apply below_drew1) | exact HB.out)⟩⟩
              · rw [if_neg c18] at H
                exact absurd H (by simp)
            · rw [if_neg c16] at H
              exact absurd H (by simp)
        · rw [if_neg c9] at H
          have c9b0 : decide (x12_1 < (a0.size : Int)) = false := decide_eq_false c9
          clear c9
          simp only [Option.some.injEq, Prod.mk.injEq] at H
          obtain ⟨rfl, rfl, rfl⟩ := H
          have hcv20 := own_string (P := Try.prog) Try.underlying36 Try.underlying5 Try.underlying9 (Kd.own_of_R HO_10.out)
          go_wp2
          go_ret3
          exact ⟨_, by first | rfl | (simp [errW_none, errW_some] <;> rfl) | (simp [*, errW_none, errW_some] <;> rfl), by (with_reducible repeat (first | apply Kd.R_alloc | apply Kd.R_drewN | apply Kd.R_drew)); exact HO_11.out, by repeat (first | (with_reducible first | exact HB.out | apply below_alloc | apply pw_below_drewN | apply below_drew1) | exact HB.out)⟩
  · rw [if_neg c5] at H
    have c5b0 : (t242 == 0) = false := beq_eq_false_iff_ne.mpr c5
    have c5b1 : (t242 != 0) = true := bne_iff_ne.mpr c5
    simp only [Option.some.injEq, Prod.mk.injEq] at H
    obtain ⟨rfl, rfl, rfl⟩ := H
    go_enter Try.func11, Try.ntmps11
    go_wp2_with (first | ((with_reducible refine gate_dst (N := 15) rfl ?_); refine Kd.R_lit Kd.string _ 9 ?hg (N := 15) ?hd (xs := ([a1, a2] : List ByteArray)) (inner := [.string a1, .string a2]) (ok := fun _ => True) (okp := fun _ => True) ?hr ?hp (fun _ hk => hk) trivial (Below.refl _ _) (Nat.le_refl _) (by simp) ?_; (case hd => rfl); (case hg => rfl); (case hr => first | (go_simp; done) | (go_simp; rfl)); (case hp => exact (Reps.one (show Kd.M Kd.string _ _ _ a1 [.string a1] from rfl) (Reps.one (show Kd.M Kd.string _ _ _ a2 [.string a2] from rfl) (Reps.none _ _)))); intro v240 w21 ho22 hb hg_ hnew_; clear hg_ hnew_; (first | rw [← Ny239.out] at ho22 | (simp only [Int.reduceToNat] at ho22; rw [← Ny239.out] at ho22)); have n0_ := Aside0.mk (Kd.R_lower ho22 (below_size (by repeat (first | (with_reducible first | exact HB.out | apply below_alloc | apply pw_below_drewN | apply below_drew1) | exact HB.out)))); have n1_ := Aside0.mk (below_step (by repeat (first | (with_reducible first | exact HB.out | apply below_alloc | apply pw_below_drewN | apply below_drew1) | exact HB.out)) hb); clear HB; have HO241 := n0_; have HB := n1_; clear n0_ n1_; clear hb ho22; obtain ⟨Ao23, co23, eo23⟩ := Kd.R_slice HO241.out; subst eo23) | ((with_reducible refine gate_callee (f := 21) rfl ?_); refine goesL_ (some 16) rfl rfl Try.func21 (by kernel_rfl) rfl #[.slice Ao23 y239.length co23] rfl (by (try simp only [List.map_toArray, List.map_cons, List.map_nil]); first | done | rfl | (simp only [List.length_drop, List.length_take]; rfl)) ?_; (with_reducible refine (depotref14_Wanted.calls k _ _ y239 t242 _ ?side1 ?side2 A4.out).mono ?_); (case side1 => repeat (first | exact (Kd.R_reads' HO241.out).2.2 | (with_reducible refine Kd.C_alloc ?_ _) | (with_reducible refine Kd.C_drewN ?_ _) | (with_reducible refine Kd.C_drew ?_))); (case side2 => exact (Kd.R_reads' HO241.out).2.1); rintro e w' ⟨rfl, ⟨nd, rfl⟩⟩; refine ⟨_, rfl, ?_⟩))
    go_ret3
    exact ⟨_, by first | rfl | (simp [errW_none, errW_some] <;> rfl) | (simp [*, errW_none, errW_some] <;> rfl), by first | exact Kd.R_nil _ _ _ _ _ | exact Kd.N_nil _ _ _ _ _ | exact Kd.V_nil _ _ _ _ _ | exact Kd.Q_nil _ _ _ _ _ | exact Kd.S_nil _ _ _ _ _, by repeat (first | (with_reducible first | exact HB.out | apply below_alloc | apply pw_below_drewN | apply below_drew1) | exact HB.out)⟩

end Go.Proofs.Ytbllmpfdhcbkpaa.Q
/- By a program of this session's: a plain Lean function for a Go function, and its contract. -/
namespace Go.Proofs.Ytbllmpfdhcbkpaa.Q
open Go.RowKit Go.Proofs.YtbllmpfdhcbkpaaW.PrintWords Go.Proofs.YtbllmpfdhcbkpaaW.PrintLast Go.Proofs.YtbllmpfdhcbkpaaW.PrintMore
attribute [local go_sem] max2_int min2_int max_two min_two max_three min_three max_four min_four Go.Proofs.Ytbllmpfdhcbkpaa.Ord.str_leq Go.Proofs.Ytbllmpfdhcbkpaa.Ord.str_gtr Go.Proofs.Ytbllmpfdhcbkpaa.Ord.str_geq   -- for this text's walks alone
set_option linter.unusedVariables false
set_option linter.unusedSimpArgs false

/-! ### depotlaw14_ints: function 12 -/
def depotlaw14_ints.l0 : Nat → List Int → List Int → Int → Int → Option (Bool)
  | 0, _, _, _, _ => none
  | k + 1, x0, x1, x12, x13 => if x13 < x12 then (if 0 ≤ x13 then (if x13 < (x0.length : Int) then (if x13 < (x1.length : Int) then (if (rd x0 x13) = (rd x1 x13) then (depotlaw14_ints.l0 k x0 x1 x12 (wrap64 (x13 + 1))) else (some false)) else (none)) else (none)) else (none)) else (some true)
def depotlaw14_ints.f (k : Nat) (l0 : List Int) (l1 : List Int) : Option (Bool) := if (l0.length : Int) = (l1.length : Int) then (depotlaw14_ints.l0 k l0 l1 (l0.length : Int) 0) else (some false)
theorem depotlaw14_ints.mono_l : ∀ k, (∀ y0 y1 y2 y3, LeO (depotlaw14_ints.l0 k y0 y1 y2 y3) (depotlaw14_ints.l0 (k + 1) y0 y1 y2 y3))
  | 0 => fun _ _ _ _ r h => by simp [depotlaw14_ints.l0] at h
  | k + 1 => by
    have ih0 := depotlaw14_ints.mono_l k
    · intro y0 y1 y2 y3
      unfold depotlaw14_ints.l0
      repeat' first
      | (with_reducible exact ih0 _ _ _ _)
      | (with_reducible exact LeO.refl _)
      | (with_reducible exact LeO.none _)
      | (with_reducible refine LeO.ite ?_ ?_)
      | (with_reducible refine LeO.bind ?_ (fun _ => ?_))
      | exact ih0 _ _ _ _
      | exact LeO.none _
      | refine LeO.ite ?_ ?_
      | refine LeO.bind ?_ (fun _ => ?_)
theorem depotlaw14_ints.mono : ∀ a0 a1 k, LeO (depotlaw14_ints.f k a0 a1) (depotlaw14_ints.f (k + 1) a0 a1) := by
  intro a0 a1 k
  have ih0 := depotlaw14_ints.mono_l k
  unfold depotlaw14_ints.f
  repeat' first
      | (with_reducible exact ih0 _ _ _ _)
      | (with_reducible exact LeO.refl _)
      | (with_reducible exact LeO.none _)
      | (with_reducible refine LeO.ite ?_ ?_)
      | (with_reducible refine LeO.bind ?_ (fun _ => ?_))
      | exact ih0 _ _ _ _
      | exact LeO.none _
      | refine LeO.ite ?_ ?_
      | refine LeO.bind ?_ (fun _ => ?_)
set_option maxHeartbeats 8000000 in
set_option maxRecDepth 100000 in
theorem depotlaw14_ints.calls (k : Nat) (A0 : Option Addr) (c0 : Nat) (l0 : List Int) (A1 : Option Addr) (c1 : Nat) (l1 : List Int) (r : Bool) (w : World) (hr0 : Kd.C (Kd.int .i64) w A0 l0.length l0) (hc0 : l0.length ≤ c0) (hr1 : Kd.C (Kd.int .i64) w A1 l1.length l1) (hc1 : l1.length ≤ c1) (h : depotlaw14_ints.f k l0 l1 = some r) :
    Calls Try.prog 12 #[.slice A0 l0.length c0, .slice A1 l1.length c1] w fun e w' => e = .returned (.bool r) ∧ Drawn0 w w' := by
  have HR0 := Aside0.mk hr0
  have HC0 := Aside0.mk hc0
  clear hr0 hc0
  have HR1 := Aside0.mk hr1
  have HC1 := Aside0.mk hc1
  clear hr1 hc1
  have H : (if (l0.length : Int) = (l1.length : Int) then (depotlaw14_ints.l0 k l0 l1 (l0.length : Int) 0) else (some false)) = some r := h
  clear h
  by_cases c3 : (l0.length : Int) = (l1.length : Int)
  · rw [if_pos c3] at H
    have c3b0 : ((l0.length : Int) == (l1.length : Int)) = true := beq_iff_eq.mpr c3
    have c3b1 : ((l0.length : Int) != (l1.length : Int)) = false := bne_eq_false_iff_eq.mpr c3
    have c3b2 : (l0.length == l1.length) = true := by first | simpa using c3 | (simp at c3 ⊢; omega)
    clear c3
    have H' := Aside0.mk H
    clear H
    go_enter Try.func12, Try.ntmps12
    go_wp2
    repeat (go_quiet (fail); try go_wp2)
    go_loopg [13] k (fun kq v13 w' => ∃ (x13_1 : Int), v13 = .int .i64 x13_1 ∧ Aside0 (depotlaw14_ints.l0 kq l0 l1 (l0.length : Int) x13_1 = some r) ∧ Aside0 (kq ≤ k) ∧ Drawn0 w w')
    case atStart => exact ⟨(0), (by first | rfl | (simp; done) | (simp [*]; done)), H', ⟨Nat.le_refl _⟩, by repeat (first | exact Drawn0.refl _ | apply Drawn0.step)⟩
    case round =>
      clear H'
      try clear c1
      try clear p2
      try clear c3
      try clear c3b0
      try clear c3b1
      try clear c3b2
      obtain ⟨x13_1, rfl, HA, HK1, ⟨m1, rfl⟩⟩ := hrel
      cases gk with
      | zero => exact absurd HA.out (by simp [depotlaw14_ints.l0])
      | succ k1 =>
        have H := HA.out
        clear HA
        simp only [depotlaw14_ints.l0] at H
        by_cases c4 : x13_1 < (l0.length : Int)
        · rw [if_pos c4] at H
          have c4b0 : decide (x13_1 < (l0.length : Int)) = true := decide_eq_true c4
          clear c4
          by_cases c5 : 0 ≤ x13_1
          · rw [if_pos c5] at H
            have c5b0 : decide (0 ≤ x13_1) = true := decide_eq_true c5
            clear c5
            by_cases c6 : x13_1 < (l0.length : Int)
            · rw [if_pos c6] at H
              have c6b0 : decide (x13_1 < (l0.length : Int)) = true := decide_eq_true c6
              clear c6
              by_cases c7 : x13_1 < (l1.length : Int)
              · rw [if_pos c7] at H
                have c7b0 : decide (x13_1 < (l1.length : Int)) = true := decide_eq_true c7
                clear c7
                by_cases c8 : (rd l0 x13_1) = (rd l1 x13_1)
                · rw [if_pos c8] at H
                  have c8b0 : ((rd l0 x13_1) == (rd l1 x13_1)) = true := beq_iff_eq.mpr c8
                  have c8b1 : ((rd l0 x13_1) != (rd l1 x13_1)) = false := bne_eq_false_iff_eq.mpr c8
                  clear c8
                  have H' := Aside0.mk H
                  clear H
                  have p253 : 0 ≤ (x13_1 : Int) := of_decide_eq_true (by first | (with_reducible assumption) | assumption)
                  have q253 : x13_1 < (l0.length : Int) := of_decide_eq_true (by first | (with_reducible assumption) | assumption)
                  obtain ⟨ad253, e253, hx253_0⟩ := Kd.at_int HR0.out x13_1 p253 q253
                  cases e253
                  replace p253 := eq_true p253
                  replace q253 := eq_true q253
                  have p254 : 0 ≤ (x13_1 : Int) := of_decide_eq_true (by first | (with_reducible assumption) | assumption)
                  have q254 : x13_1 < (l1.length : Int) := of_decide_eq_true (by first | (with_reducible assumption) | assumption)
                  obtain ⟨ad254, e254, hx254_0⟩ := Kd.at_int HR1.out x13_1 p254 q254
                  cases e254
                  replace p254 := eq_true p254
                  replace q254 := eq_true q254
                  go_wp2
                  repeat (go_quiet (fail); try go_wp2)
                  go_roundg k1
                  case measure => have := HK1.out; omega
                  case rel => exact ⟨(wrap64 (x13_1 + 1)), (by first | rfl | (simp; done) | (simp [*]; done)), H', ⟨by have := HK1.out; omega⟩, by repeat (first | exact Drawn0.refl _ | apply Drawn0.step)⟩
                · rw [if_neg c8] at H
                  have c8b0 : ((rd l0 x13_1) == (rd l1 x13_1)) = false := beq_eq_false_iff_ne.mpr c8
                  have c8b1 : ((rd l0 x13_1) != (rd l1 x13_1)) = true := bne_iff_ne.mpr c8
                  obtain rfl := Option.some.inj H
                  have p253 : 0 ≤ (x13_1 : Int) := of_decide_eq_true (by first | (with_reducible assumption) | assumption)
                  have q253 : x13_1 < (l0.length : Int) := of_decide_eq_true (by first | (with_reducible assumption) | assumption)
                  obtain ⟨ad253, e253, hx253_0⟩ := Kd.at_int HR0.out x13_1 p253 q253
                  cases e253
                  replace p253 := eq_true p253
                  replace q253 := eq_true q253
                  have p254 : 0 ≤ (x13_1 : Int) := of_decide_eq_true (by first | (with_reducible assumption) | assumption)
                  have q254 : x13_1 < (l1.length : Int) := of_decide_eq_true (by first | (with_reducible assumption) | assumption)
                  obtain ⟨ad254, e254, hx254_0⟩ := Kd.at_int HR1.out x13_1 p254 q254
                  cases e254
                  replace p254 := eq_true p254
                  replace q254 := eq_true q254
                  go_wp2
                  repeat (go_quiet (fail); try go_wp2)
                  go_ret
                  exact ⟨by first | rfl | (simp; done) | (simp [*]; done), by repeat (first | exact Drawn0.refl _ | apply Drawn0.step)⟩
              · rw [if_neg c7] at H
                exact absurd H (by simp)
            · rw [if_neg c6] at H
              exact absurd H (by simp)
          · rw [if_neg c5] at H
            exact absurd H (by simp)
        · rw [if_neg c4] at H
          have c4b0 : decide (x13_1 < (l0.length : Int)) = false := decide_eq_false c4
          clear c4
          obtain rfl := Option.some.inj H
          go_wp2
          repeat (go_quiet (fail); try go_wp2)
          go_ret
          exact ⟨by first | rfl | (simp; done) | (simp [*]; done), by repeat (first | exact Drawn0.refl _ | apply Drawn0.step)⟩
  · rw [if_neg c3] at H
    have c3b0 : ((l0.length : Int) == (l1.length : Int)) = false := beq_eq_false_iff_ne.mpr c3
    have c3b1 : ((l0.length : Int) != (l1.length : Int)) = true := bne_iff_ne.mpr c3
    have c3b2 : (l0.length == l1.length) = false := by first | simpa using c3 | (simp at c3 ⊢; omega)
    obtain rfl := Option.some.inj H
    go_enter Try.func12, Try.ntmps12
    go_wp2
    repeat (go_quiet (fail); try go_wp2)
    go_ret
    exact ⟨by first | rfl | (simp; done) | (simp [*]; done), by repeat (first | exact Drawn0.refl _ | apply Drawn0.step)⟩

end Go.Proofs.Ytbllmpfdhcbkpaa.Q
/- The document's Wanted, At and Rewrite; ints: in plain Lean. -/
namespace Go.Proofs.Ytbllmpfdhcbkpaa.Scan
open Go.RowKit Go.Proofs.Ytbllmpfdhcbkpaa.Q Go.Proofs.Ytbllmpfdhcbkpaa.SpathPure Go.Proofs.Ytbllmpfdhcbkpaa.Evs Go.Proofs.YtbllmpfdhcbkpaaW.PrintWords Go.Proofs.YtbllmpfdhcbkpaaW.PrintLast Go.Proofs.YtbllmpfdhcbkpaaW.PrintMore Go.Proofs.Ytbllmpfdhcbkpaa.Bytes
set_option linter.unusedVariables false
set_option linter.unusedSimpArgs false
theorem ref_wanted_l0 (hs : List ByteArray) (hl : hs.length ≤ 1099511627776) (d : Nat) : ∀ i, i + d = hs.length → Ev (fun k => depotref14_Wanted.l0 k hs (i : Int)) (wantedL (hs.drop i)) := by
  induction d with
  | zero =>
    intro i hi
    refine succ ?_
    simp only [depotref14_Wanted.l0]
    rw [List.drop_of_length_le (by omega)]
    exact neg (by omega) (Ev.now _)
  | succ d ih =>
    intro i hi
    have hlt : i < hs.length := by omega
    refine succ ?_
    simp only [depotref14_Wanted.l0]
    refine pos (by omega) (pos (by omega) ?_)
    have hd : hs.drop i = hs[i] :: hs.drop (i + 1) := List.drop_eq_getElem_cons hlt
    have hr : rdOf ByteArray.empty hs (i : Int) = hs[i] := by rw [rd_nat, List.getD_eq_getElem?_getD, List.getElem?_eq_getElem hlt]; rfl
    rw [hr]
    refine Ev.bind (ref_hash _) ?_
    rw [hd, wantedL]
    by_cases hz : hashNo (bs hs[i]) = 0
    · rw [if_neg (fun h => h hz)]
      refine pos hz ?_
      rw [wr i (by omega)]
      exact ih (i + 1) (by omega)
    · rw [if_pos hz]
      exact neg hz (Ev.now _)
theorem ref_wanted (hs : List ByteArray) (hl : hs.length ≤ 1099511627776) : Ev (fun k => depotref14_Wanted.f k hs) (wantedL hs) := by
  unfold depotref14_Wanted.f
  have := ref_wanted_l0 hs hl hs.length 0 (by omega)
  rwa [List.drop_zero] at this
theorem wanted_two (f t : ByteArray) : wantedL [f, t] = wanted2 f t := by
  unfold wantedL wantedL wantedL wanted2
  split
  · rfl
  · split
    · rfl
    · next h => exact (Classical.not_not.1 h).symm
def nb (l : List UInt8) : List Int := l.map (fun b : UInt8 => (b.toNat : Int))
theorem str_nb (l : List UInt8) : strOfNums (nb l) = ⟨l.toArray⟩ := by
  unfold strOfNums nb
  rw [List.map_map]
  congr 2
  rw [List.map_congr_left (g := id) (fun x _ => by simp), List.map_id]
theorem ref_at (text f : ByteArray) (hf : (bs f).length = 32) (hs : text.size ≤ 4294967000) (i : Nat) (hi : i ≤ text.size) : depotref14_At.f text f (i : Int) = some (decide (((bs text).drop i).take 32 = bs f)) := by
  have hfs : f.size = 32 := by rw [size_bs]; exact hf
  have hw : wrap64 ((i : Int) + (f.size : Int)) = ((i + 32 : Nat) : Int) := by rw [hfs, w64 (by omega) (by omega)]; omega
  unfold depotref14_At.f
  rw [hw]
  by_cases h : i + 32 ≤ text.size
  · rw [if_pos (by omega), if_pos (by omega), if_pos (by omega)]
    congr 1
    rw [toList_bs, toList_bs, bs_extract, Int.toNat_natCast, Int.toNat_natCast, show i + 32 - i = 32 by omega, Bool.eq_iff_iff, beq_iff_eq, decide_eq_true_eq]
  · rw [if_neg (by omega)]
    congr 1
    refine (decide_eq_false (fun e => ?_)).symm
    have := win_length hf e
    rw [← size_bs] at this
    omega
theorem ref_rw_l0 (text f t : ByteArray) (hf : (bs f).length = 32) (ht : (bs t).length = 32) (hs : text.size ≤ 4294967000) : ∀ (n i : Nat) (out : List UInt8) (pl : List Nat), i + n = text.size → out.length ≤ i → pl.length ≤ i →
    Ev (fun k => depotref14_Rewrite.l0 k text f t (nb out) (zs pl) (i : Int)) (⟨(out ++ R (bs f) (bs t) ((bs text).drop i)).toArray⟩, zs (pl ++ Pl (bs f) ((bs text).drop i) i), 0) := by
  intro n
  induction n using Nat.strongRecOn with
  | _ n ih =>
    intro i out pl hi ho hp
    have hts : t.size = 32 := by rw [size_bs]; exact ht
    have hnb : (nb out).length = out.length := by unfold nb; rw [List.length_map]
    have hzl : (zs pl).length = pl.length := by unfold zs; rw [List.length_map]
    refine succ ?_
    simp only [depotref14_Rewrite.l0]
    by_cases hlt : i < text.size
    · refine pos (by omega) ?_
      refine call (ref_at text f hf hs i (by omega)) ?_
      have hlb : i < (bs text).length := by rw [← size_bs]; exact hlt
      have hd : (bs text).drop i = (bs text)[i] :: (bs text).drop (i + 1) := List.drop_eq_getElem_cons hlb
      by_cases e : ((bs text).drop i).take 32 = bs f
      · have hwl := win_length hf e
        rw [← size_bs] at hwl
        refine pos (decide_eq_true e) (pos (by rw [hnb, hts]; omega) (pos (by rw [hzl]; omega) ?_))
        have hw : wrap64 ((i : Int) + 32) = ((i + 32 : Nat) : Int) := by rw [w64 (by omega) (by omega)]; omega
        have e1 : nb out ++ bytesOf t = nb (out ++ bs t) := by
          unfold nb bs
          rw [List.map_append]
          rfl
        have e2 : zs pl ++ [(i : Int)] = zs (pl ++ [i]) := by
          unfold zs
          rw [List.map_append]
          rfl
        rw [hw, e1, e2]
        clear hw e1 e2
        refine same ?_ (ih (n - 32) (by omega) (i + 32) (out ++ bs t) (pl ++ [i]) (by omega) (by rw [List.length_append, ht]; omega) (by rw [List.length_append, List.length_singleton]; omega))
        rw [R_hit hf e, Pl_hit hf e, List.drop_drop, List.append_assoc, List.append_assoc]
        rfl
      · refine neg (by rw [decide_eq_true_eq]; exact e) (pos (by omega) (pos (by rw [hnb]; omega) ?_))
        have e1 : nb out ++ [bt text (i : Int)] = nb (out ++ [(bs text)[i]]) := by
          rw [bt_lt text i hlb]
          unfold nb
          rw [List.map_append]
          rfl
        rw [wr i (by omega), e1]
        clear e1
        refine same ?_ (ih (n - 1) (by omega) (i + 1) (out ++ [(bs text)[i]]) pl (by omega) (by rw [List.length_append, List.length_singleton]; omega) (by omega))
        rw [hd] at e ⊢
        rw [R_miss e, Pl_miss e, List.append_assoc]
        rfl
    · refine neg (by omega) ?_
      refine same ?_ (Ev.now _)
      rw [List.drop_of_length_le (by rw [← size_bs]; omega), R_nil, Pl_nil, List.append_nil, List.append_nil, str_nb]
theorem ref_rewrite (text f t : ByteArray) (hs : text.size ≤ 4294967000) : Ev (fun k => depotref14_Rewrite.f k text f t) (if wanted2 f t = 0 then (⟨(R (bs f) (bs t) (bs text)).toArray⟩, zs (Pl (bs f) (bs text) 0), 0) else (⟨#[]⟩, [], wanted2 f t)) := by
  unfold depotref14_Rewrite.f
  refine Ev.bind (ref_wanted [f, t] (by simp)) ?_
  rw [wanted_two]
  by_cases h : wanted2 f t = 0
  · obtain ⟨h1, h2⟩ := wanted_len h
    rw [if_pos h]
    refine pos h ?_
    have := ref_rw_l0 text f t h1 h2 hs text.size 0 [] [] (by omega) (Nat.le_refl _) (Nat.le_refl _)
    rw [List.drop_zero, List.nil_append, List.nil_append] at this
    exact this
  · rw [if_neg h]
    exact neg h (Ev.now _)
theorem ints_l0 (l : List Int) (hl : l.length ≤ 1099511627776) (d : Nat) : ∀ i, i + d = l.length → Ev (fun k => depotlaw14_ints.l0 k l l (l.length : Int) (i : Int)) true := by
  induction d with
  | zero =>
    intro i hi
    refine succ ?_
    simp only [depotlaw14_ints.l0]
    exact neg (by omega) (Ev.now _)
  | succ d ih =>
    intro i hi
    refine succ ?_
    simp only [depotlaw14_ints.l0]
    refine pos (by omega) (pos (by omega) (pos (by omega) (pos (by omega) (pos (by first | rfl | trivial) ?_))))
    rw [wr i (by omega)]
    exact ih (i + 1) (by omega)
theorem ints_same (l : List Int) (hl : l.length ≤ 1099511627776) : Ev (fun k => depotlaw14_ints.f k l l) true := by
  unfold depotlaw14_ints.f
  exact pos (by first | rfl | trivial) (ints_l0 l hl l.length 0 (by omega))
end Go.Proofs.Ytbllmpfdhcbkpaa.Scan
/- A Scanner and a Rewriter as one thing each: the text that came in, what was told. -/
namespace Go.Proofs.Ytbllmpfdhcbkpaa.Scan
open Go.Shelf Go.RowKit Go.Proofs.Ytbllmpfdhcbkpaa.Q Go.Proofs.Ytbllmpfdhcbkpaa.SpathPure Go.Proofs.Ytbllmpfdhcbkpaa.Rise Go.Proofs.YtbllmpfdhcbkpaaW.PrintWords Go.Proofs.YtbllmpfdhcbkpaaW.PrintLast Go.Proofs.YtbllmpfdhcbkpaaW.PrintMore Go.Proofs.Ytbllmpfdhcbkpaa.Bytes
set_option linter.unusedVariables false
set_option linter.unusedSimpArgs false
/-- A Scanner of these hashes that took S. -/
def Scn (W : World) (base b : Nat) (hashes : List ByteArray) (S : List UInt8) : Prop :=
  ∃ (bm n : Nat) (vt vs : Value) (D : DataW Unit) (Hs : List ByteArray) (seen : List Bool), ScM W base b bm n vt vs (keep S) S.length D seen ∧ Nw hashes hashes.length D Hs ∧ seen.length = Hs.length ∧ n ≤ hashes.length ∧ hashes.length ≤ 1048577 ∧
    ∀ (k : Nat) (h : ByteArray), Hs[k]? = some h → (seen[k]? = some true ↔ Occ S (bs h))
theorem Scn.less {W W2 : World} {base b : Nat} {hashes : List ByteArray} {S : List UInt8} (h : Scn W base b hashes S) (k : Below W.heap.size W W2) : Scn W2 base b hashes S := by
  obtain ⟨bm, n, vt, vs, D, Hs, seen, h1, r⟩ := h
  exact ⟨bm, n, vt, vs, D, Hs, seen, h1.less k, r⟩
theorem Scn.lies {W : World} {base b : Nat} {hashes : List ByteArray} {S : List UInt8} (h : Scn W base b hashes S) : base ≤ b ∧ b < W.heap.size := by
  obtain ⟨bm, n, vt, vs, D, Hs, seen, h1, r⟩ := h
  exact ⟨h1.low, (Array.getElem?_eq_some_iff.1 h1.lies).1⟩
theorem occ_nil {f : List UInt8} (hf : f.length = 32) : ¬ Occ [] f := fun ⟨a, e⟩ => by
  have := win_length hf e
  simp at this
theorem scn_new (w : World) (A : Option Addr) (c : Nat) (hashes : List ByteArray) (hC : Kd.C Kd.string w A hashes.length hashes) (hc : hashes.length ≤ c) (hs : ∀ h ∈ hashes, h.size ≤ 140737488351232) (hn : hashes.length ≤ 1048577) (hw : wantedL hashes = 0) :
    Calls Try.prog 13 #[.slice A hashes.length c] w fun e w' => e = .returned (.tuple #[.pointer (some ⟨w.heap.size + 1, 0, none⟩), .int .i64 0]) ∧ Scn w' w.heap.size (w.heap.size + 1) hashes [] ∧ Below w.heap.size w w' := by
  refine (new_calls w A c hashes hC hc hs (by omega)).mono ?_
  rintro e w' ⟨hb, h⟩
  rcases h with h | ⟨_, n, vs, D, Hs, rfl, hm, hn', hnw⟩
  · exact absurd hw h.1
  · refine ⟨rfl, ⟨_, n, _, vs, D, Hs, _, hm, hnw, List.length_replicate, hn', hn, fun k h hk => ?_⟩, hb⟩
    have hx := hnw.ok h ((hnw.mem h).1 (List.mem_of_getElem? hk))
    constructor
    · intro e
      rw [List.getElem?_replicate] at e
      split at e
      · injection e with e
        cases e
      · cases e
    · exact fun h => absurd h (occ_nil (hash_len hx))
theorem new_bad (w : World) (A : Option Addr) (c : Nat) (hashes : List ByteArray) (hC : Kd.C Kd.string w A hashes.length hashes) (hc : hashes.length ≤ c) (hs : ∀ h ∈ hashes, h.size ≤ 140737488351232) (hn : hashes.length ≤ 1048577) (hw : wantedL hashes ≠ 0) :
    Calls Try.prog 13 #[.slice A hashes.length c] w fun e w' => e = .returned (.tuple #[.pointer none, .int .i64 (wantedL hashes)]) ∧ Below w.heap.size w w' := by
  refine (new_calls w A c hashes hC hc hs (by omega)).mono ?_
  rintro e w' ⟨hb, h⟩
  rcases h with h | h
  · exact ⟨h.2, hb⟩
  · exact absurd h.1 hw
theorem scn_feed (w : World) (base b : Nat) (hashes : List ByteArray) (S : List UInt8) (h : Scn w base b hashes S) (gp op m cp : Nat) (p : List UInt8) (hm : m = p.length) (hmc : m ≤ cp) (hp : ∀ j x, p[j]? = some x → w.cell? ⟨gp, op + j, none⟩ = some (bc x)) (np : gp ≠ b) (hsz : p.length ≤ 4294960000) (hk : S.length ≤ 2305843009213693952) :
    Calls Try.prog 14 #[.pointer (some ⟨b, 0, none⟩), .slice (some ⟨gp, op, none⟩) m cp] w fun e w' => e = .returned (.tuple #[]) ∧ Scn w' base b hashes (S ++ p) ∧ Below base w w' := by
  obtain ⟨bm, n, vt, vs, D, Hs, seen, h1, h2, h3, h4, h5, h6⟩ := h
  have hok : ∀ x ∈ Hs, hashNo (bs x) = 0 := fun x hx => h2.ok x ((h2.mem x).1 hx)
  have hkl : (keep S).length ≤ 31 := by unfold keep; rw [List.length_drop]; omega
  refine (scFeed_calls w base b bm n vt vs (keep S) S.length D Hs seen h1 h2.mo h2.nd hok h3 (by omega) gp op m cp p hm hmc hp np (by omega) hk).mono ?_
  rintro e w' ⟨vt', seen', rfl, hs, hsn, hf, _⟩
  refine ⟨rfl, ⟨bm, n, vt', vs, D, Hs, seen', ?_, h2, by rw [hsn.1, h3], h4, h5, fun k h hk => ?_⟩, below_fr (Below.refl base w) hf (fun g hg => ?_) ?_⟩
  · have e1 : (keep S ++ p).drop ((keep S ++ p).length - 31) = keep (S ++ p) := keep_more S p
    have e2 : (S ++ p).length = S.length + m := by rw [List.length_append, hm]
    rw [e1] at hs
    rw [e2]
    exact hs
  · have hl := hash_len (hok h (List.mem_of_getElem? hk))
    rw [hsn.2 k h hk, h6 k h hk, occ_more hl]
    constructor
    · rintro (h | ⟨a, _, e⟩)
      · exact Or.inl h
      · exact Or.inr ⟨a, e⟩
    · rintro (h | ⟨a, e⟩)
      · exact Or.inl h
      · have := win_length hl e
        exact Or.inr ⟨a, by omega, e⟩
  · rcases hg with rfl | hg
    · exact h1.low
    · exact (s_block h1.rs hg).1
  · have := (Array.getElem?_eq_some_iff.1 h1.lies).1
    have := h1.low
    omega
theorem scn_found (w : World) (base b : Nat) (hashes : List ByteArray) (S : List UInt8) (h : Scn w base b hashes S) :
    Calls Try.prog 15 #[.pointer (some ⟨b, 0, none⟩)] w fun e w' => ∃ (v' : Value) (L : List ByteArray), e = .returned v' ∧ Kd.R Kd.string 9 w' w.heap.size (fun _ => True) v' L ∧ Below w.heap.size w w' ∧ Sorted L ∧ ∀ x, x ∈ L ↔ x ∈ hashes ∧ Occ S (bs x) := by
  obtain ⟨bm, n, vt, vs, D, Hs, seen, h1, h2, h3, h4, h5, h6⟩ := h
  have hl : Hs.length ≤ hashes.length := len_sub Hs hashes h2.nd (fun x hx => by have := (h2.mem x).1 hx; simpa using this)
  refine (found_calls w base b bm n vt vs _ _ D Hs seen h1 h2.mo h2.nd h3 (by omega)).mono ?_
  rintro e w' ⟨v', L, rfl, hr, hb, hs, hm⟩
  refine ⟨v', L, rfl, hr, hb, hs, fun x => ?_⟩
  rw [hm x]
  constructor
  · rintro ⟨k, hk, e⟩
    have := (h2.mem x).1 (List.mem_of_getElem? hk)
    rw [List.take_length] at this
    exact ⟨this, (h6 k x hk).1 e⟩
  · rintro ⟨hx, ho⟩
    obtain ⟨k, hk, e⟩ := List.getElem_of_mem ((h2.mem x).2 (by rw [List.take_length]; exact hx))
    have hk' : Hs[k]? = some x := by rw [List.getElem?_eq_getElem hk, e]
    exact ⟨k, hk', (h6 k x hk').2 ho⟩
theorem scn_taken (w : World) (base b : Nat) (hashes : List ByteArray) (S : List UInt8) (h : Scn w base b hashes S) :
    Calls Try.prog 22 #[.pointer (some ⟨b, 0, none⟩)] w fun e w' => e = .returned (.int .i64 (S.length : Nat)) ∧ w' = w := by
  obtain ⟨bm, n, vt, vs, D, Hs, seen, h1, r⟩ := h
  exact taken_calls w b _ _ _ h1.lies rfl
/-- A Rewriter that took S, told out, and stands open. -/
def Rwr (W : World) (base b : Nat) (f t : ByteArray) (S out : List UInt8) : Prop :=
  ∃ (pl : List Nat) (vt vp : Value) (tl : List UInt8) (d : Nat), Rw W base b vt vp tl S.length f t d pl false ∧ Fed (bs f) (bs t) S out pl 0 tl d ∧ tl.length < 32
/-- .. that is closed. -/
def Rwc (W : World) (base b : Nat) (f t : ByteArray) (S : List UInt8) : Prop :=
  ∃ (vt vp : Value) (tl : List UInt8) (d : Nat), Rw W base b vt vp tl S.length f t d (Pl (bs f) S 0) true
theorem Rwr.less {W W2 : World} {base b : Nat} {f t : ByteArray} {S out : List UInt8} (h : Rwr W base b f t S out) (k : Below W.heap.size W W2) : Rwr W2 base b f t S out := by
  obtain ⟨pl, vt, vp, tl, d, h1, r⟩ := h
  exact ⟨pl, vt, vp, tl, d, h1.below k, r⟩
theorem Rwc.less {W W2 : World} {base b : Nat} {f t : ByteArray} {S : List UInt8} (h : Rwc W base b f t S) (k : Below W.heap.size W W2) : Rwc W2 base b f t S := by
  obtain ⟨vt, vp, tl, d, h1⟩ := h
  exact ⟨vt, vp, tl, d, h1.below k⟩
theorem Rwr.lies {W : World} {base b : Nat} {f t : ByteArray} {S out : List UInt8} (h : Rwr W base b f t S out) : base ≤ b ∧ b < W.heap.size := by
  obtain ⟨pl, vt, vp, tl, d, h1, r⟩ := h
  exact ⟨h1.low, (Array.getElem?_eq_some_iff.1 h1.lies).1⟩
theorem Rwc.lies {W : World} {base b : Nat} {f t : ByteArray} {S : List UInt8} (h : Rwc W base b f t S) : base ≤ b ∧ b < W.heap.size := by
  obtain ⟨vt, vp, tl, d, h1⟩ := h
  exact ⟨h1.low, (Array.getElem?_eq_some_iff.1 h1.lies).1⟩
theorem rwr_new (w : World) (f t : ByteArray) (hf : f.size ≤ 140737488351232) (ht : t.size ≤ 140737488351232) (hw : wanted2 f t = 0) : Calls Try.prog 16 #[.string f, .string t] w fun e w' =>
    ∃ b, e = .returned (.tuple #[.pointer (some ⟨b, 0, none⟩), .int .i64 0]) ∧ Rwr w' w.heap.size b f t [] [] ∧ Below w.heap.size w w' := by
  refine (newRw_calls w f t hf ht).mono ?_
  rintro e w' (h | ⟨_, b, rfl, hr, hb⟩)
  · exact absurd hw h.1
  · exact ⟨b, rfl, ⟨[], _, _, [], 0, hr, Fed.start _ _ _ _, by decide⟩, hb⟩
theorem rwr_feed (w : World) (base b : Nat) (m : Int) (f t : ByteArray) (S out : List UInt8) (h : Rwr w base b f t S out) (hz : 0 < base) (hm : w.cell? ⟨0, 0, none⟩ = some (.int .i64 m)) (hf : (bs f).length = 32) (ht : (bs t).length = 32)
    (gp op n cp : Nat) (p : List UInt8) (hn : n = p.length) (hnc : n ≤ cp) (hp : ∀ j x, p[j]? = some x → w.cell? ⟨gp, op + j, none⟩ = some (bc x)) (np : gp ≠ b) (hsz : p.length ≤ 4294960000) (hk : S.length ≤ 1099511627776) :
    Calls Try.prog 17 #[.pointer (some ⟨b, 0, none⟩), .slice (some ⟨gp, op, none⟩) n cp] w fun e w' => ∃ O : ByteArray, e = .returned (.string O) ∧ Rwr w' base b f t (S ++ p) (out ++ bs O) ∧ Below base w w' := by
  obtain ⟨pl, vt, vp, tl, d, h1, h2, h3⟩ := h
  have hbs := (Array.getElem?_eq_some_iff.1 h1.lies).1
  have hlow := h1.low
  have hd := h2.pos
  have hpl : pl.length ≤ S.length := by
    have e := congrArg List.length (h2.place [])
    rw [List.append_nil, List.append_nil, List.length_append] at e
    have := Pl_length hf _ S 0 (Nat.le_refl _)
    omega
  refine (feed_calls w base b m vt vp tl S.length f t d pl h1 hz (by omega) hm hf ht gp op n cp p hn hnc hp np (by omega) (by omega) (by omega) (by omega)).mono ?_
  rintro e w' ⟨O, T, pl2, d', vt', vp', rfl, hfd, htl, hr, hfr, _⟩
  refine ⟨O, rfl, ⟨pl ++ pl2, vt', vp', bs T, d', ?_, h2.more hfd, by rw [← size_bs]; exact htl⟩, below_fr (Below.refl base w) hfr (fun g hg => ?_) (by omega)⟩
  · rw [List.length_append, ← hn]
    exact hr
  · rcases hg with rfl | hg
    · exact hlow
    · rcases r_own h1.rp with ⟨rfl, _⟩ | ⟨g', cap, cur, rfl, hb, _⟩
      · cases hg
      · have : g' = g := by simpa [Value.ownBlock] using hg
        omega
theorem Rwr.told {W : World} {base b : Nat} {f t : ByteArray} {S out : List UInt8} (h : Rwr W base b f t S out) : out.length ≤ S.length := by
  obtain ⟨pl, vt, vp, tl, d, h1, h2, h3⟩ := h
  have := h2.len
  omega
theorem rwr_taken (w : World) (base b : Nat) (f t : ByteArray) (S out : List UInt8) (h : Rwr w base b f t S out) :
    Calls Try.prog 22 #[.pointer (some ⟨b, 0, none⟩)] w fun e w' => e = .returned (.int .i64 (S.length : Nat)) ∧ w' = w := by
  obtain ⟨pl, vt, vp, tl, d, h1, r⟩ := h
  exact taken_calls w b _ _ _ h1.lies rfl
theorem rwc_taken (w : World) (base b : Nat) (f t : ByteArray) (S : List UInt8) (h : Rwc w base b f t S) :
    Calls Try.prog 22 #[.pointer (some ⟨b, 0, none⟩)] w fun e w' => e = .returned (.int .i64 (S.length : Nat)) ∧ w' = w := by
  obtain ⟨vt, vp, tl, d, h1⟩ := h
  exact taken_calls w b _ _ _ h1.lies rfl
theorem rwr_close (w : World) (base b : Nat) (f t : ByteArray) (S out : List UInt8) (h : Rwr w base b f t S out) (hf : (bs f).length = 32) : Calls Try.prog 18 #[.pointer (some ⟨b, 0, none⟩)] w fun e w' =>
    ∃ T : ByteArray, e = .returned (.string T) ∧ out ++ bs T = R (bs f) (bs t) S ∧ Rwc w' base b f t S ∧ Below base w w' := by
  obtain ⟨pl, vt, vp, tl, d, h1, h2, h3⟩ := h
  obtain ⟨e1, e2⟩ := h2.whole hf h3
  have hbs := (Array.getElem?_eq_some_iff.1 h1.lies).1
  have hlow := h1.low
  refine (close_calls w base b vt vp tl _ f t d pl false h1).mono ?_
  rintro e w' ⟨rfl, hr, hfr⟩
  rw [if_neg Bool.false_ne_true]
  exact ⟨_, rfl, by rw [bs_mk]; exact e1, ⟨vt, vp, tl, d, by rw [← e2]; exact hr⟩, below_fr (Below.refl base w) hfr (fun g hg => by rw [hg]; exact hlow) (by omega)⟩
theorem rwc_close (w : World) (base b : Nat) (f t : ByteArray) (S : List UInt8) (h : Rwc w base b f t S) : Calls Try.prog 18 #[.pointer (some ⟨b, 0, none⟩)] w fun e w' =>
    e = .returned (.string ⟨#[]⟩) ∧ Rwc w' base b f t S ∧ Below base w w' := by
  obtain ⟨vt, vp, tl, d, h1⟩ := h
  have hbs := (Array.getElem?_eq_some_iff.1 h1.lies).1
  have hlow := h1.low
  refine (close_calls w base b vt vp tl _ f t d _ true h1).mono ?_
  rintro e w' ⟨rfl, hr, hfr⟩
  rw [if_pos rfl]
  exact ⟨rfl, ⟨vt, vp, tl, d, hr⟩, below_fr (Below.refl base w) hfr (fun g hg => by rw [hg]; exact hlow) (by omega)⟩
theorem rwc_places (w : World) (base b : Nat) (f t : ByteArray) (S : List UInt8) (h : Rwc w base b f t S) (hf : (bs f).length = 32) (hs : S.length ≤ 1099511627776) : Calls Try.prog 19 #[.pointer (some ⟨b, 0, none⟩)] w fun e w' =>
    ∃ v', e = .returned v' ∧ Kd.R (Kd.int .i64) 3 w' w.heap.size (fun _ => True) v' (zs (Pl (bs f) S 0)) ∧ Below w.heap.size w w' := by
  obtain ⟨vt, vp, tl, d, h1⟩ := h
  have := Pl_length hf _ S 0 (Nat.le_refl _)
  exact places_calls w base b vt vp tl _ f t d _ true h1 (by omega)
/-- A Feed of one that is closed: nothing. -/
theorem rwc_feed (w : World) (base b : Nat) (f t : ByteArray) (S : List UInt8) (h : Rwc w base b f t S) (A : Option Addr) (n c : Nat) : Calls Try.prog 17 #[.pointer (some ⟨b, 0, none⟩), .slice A n c] w fun e w' => e = .returned (.string ⟨#[]⟩) ∧ w' = w := by
  obtain ⟨vt, vp, tl, d, h1⟩ := h
  have c6 := row_cell (i := 6) h1.lies rfl
  clear h1
  go_enter Try.func17, Try.ntmps17
  go_wp2
  go_ret
  exact ⟨rfl, rfl⟩
/-- Where f stood, and the text around. -/
theorem pl_cons {f : List UInt8} (t : List UInt8) (hf : f.length = 32) : ∀ (s : List UInt8) (d p : Nat) (rest : List Nat), Pl f s d = p :: rest → ∃ j, p = d + j ∧ j + 32 ≤ s.length ∧ (s.drop j).take 32 = f ∧ rest = Pl f (s.drop (j + 32)) (p + 32) ∧ R f t s = s.take j ++ (t ++ R f t (s.drop (j + 32)))
  | [], d, p, rest, h => by rw [Pl_nil] at h; cases h
  | c :: s, d, p, rest, h => by
    by_cases e : (c :: s).take 32 = f
    · rw [Pl_hit hf e] at h
      injection h with h1 h2
      have hl := congrArg List.length e
      rw [hf, List.length_take] at hl
      refine ⟨0, by omega, by omega, e, ?_, ?_⟩
      · rw [← h2, ← h1, Nat.zero_add]
      · rw [R_hit hf e, Nat.zero_add]
        rfl
    · rw [Pl_miss e] at h
      obtain ⟨j, h1, h2, h3, h4, h5⟩ := pl_cons t hf s (d + 1) p rest h
      refine ⟨j + 1, by omega, by rw [List.length_cons]; omega, h3, ?_, ?_⟩
      · rw [h4, Nat.add_right_comm j 1 32, List.drop_succ_cons]
      · rw [R_miss e, h5, Nat.add_right_comm j 1 32, List.drop_succ_cons]
        rfl
theorem pl_none {f : List UInt8} (t : List UInt8) (hf : f.length = 32) : ∀ (s : List UInt8) (d : Nat), Pl f s d = [] → R f t s = s ∧ ¬ Occ s f
  | [], d, h => ⟨R_nil f t, occ_nil hf⟩
  | c :: s, d, h => by
    by_cases e : (c :: s).take 32 = f
    · rw [Pl_hit hf e] at h
      cases h
    · rw [Pl_miss e] at h
      obtain ⟨h1, h2⟩ := pl_none t hf s (d + 1) h
      refine ⟨by rw [R_miss e, h1], fun ⟨a, ha⟩ => ?_⟩
      cases a with
      | zero => exact e ha
      | succ a => exact h2 ⟨a, by simpa using ha⟩
theorem pl_occ {f : List UInt8} (hf : f.length = 32) (s : List UInt8) : (Pl f s 0).length > 0 ↔ Occ s f := by
  cases h : Pl f s 0 with
  | nil => simp [(pl_none f hf s 0 h).2]
  | cons p rest =>
    obtain ⟨j, _, _, h3, _⟩ := pl_cons f hf s 0 p rest h
    simp only [List.length_cons, Nat.zero_lt_succ, true_iff, gt_iff_lt]
    exact ⟨j, h3⟩
end Go.Proofs.Ytbllmpfdhcbkpaa.Scan
/- By a program of this session's: a plain Lean function for a Go function, and its contract. -/
namespace Go.Proofs.Ytbllmpfdhcbkpaa.Q
open Go.RowKit Go.Proofs.YtbllmpfdhcbkpaaW.PrintWords Go.Proofs.YtbllmpfdhcbkpaaW.PrintLast Go.Proofs.YtbllmpfdhcbkpaaW.PrintMore
attribute [local go_sem] max2_int min2_int max_two min_two max_three min_three max_four min_four Go.Proofs.Ytbllmpfdhcbkpaa.Ord.str_leq Go.Proofs.Ytbllmpfdhcbkpaa.Ord.str_gtr Go.Proofs.Ytbllmpfdhcbkpaa.Ord.str_geq   -- for this text's walks alone
set_option linter.unusedVariables false
set_option linter.unusedSimpArgs false

/-! ### depotref14_Within: function 34 -/
def depotref14_Within.l0 : Nat → ByteArray → ByteArray → Int → Option (Bool)
  | 0, _, _, _ => none
  | k + 1, x0, x1, x5 => if x5 < (x0.size : Int) then ((depotref14_At.f x0 x1 x5).bind fun t257 => (if t257 = true then (some true) else (depotref14_Within.l0 k x0 x1 (wrap64 (x5 + 1))))) else (some false)
def depotref14_Within.f (k : Nat) (a0 : ByteArray) (a1 : ByteArray) : Option (Bool) := depotref14_Within.l0 k a0 a1 0
theorem depotref14_Within.mono_l : ∀ k, (∀ y0 y1 y2, LeO (depotref14_Within.l0 k y0 y1 y2) (depotref14_Within.l0 (k + 1) y0 y1 y2))
  | 0 => fun _ _ _ r h => by simp [depotref14_Within.l0] at h
  | k + 1 => by
    have ih0 := depotref14_Within.mono_l k
    · intro y0 y1 y2
      unfold depotref14_Within.l0
      repeat' first
      | (with_reducible exact ih0 _ _ _)
      | (with_reducible exact LeO.refl _)
      | (with_reducible exact LeO.none _)
      | (with_reducible refine LeO.ite ?_ ?_)
      | (with_reducible refine LeO.bind ?_ (fun _ => ?_))
      | exact ih0 _ _ _
      | exact LeO.none _
      | refine LeO.ite ?_ ?_
      | refine LeO.bind ?_ (fun _ => ?_)
theorem depotref14_Within.mono : ∀ a0 a1 k, LeO (depotref14_Within.f k a0 a1) (depotref14_Within.f (k + 1) a0 a1) := by
  intro a0 a1 k
  have ih0 := depotref14_Within.mono_l k
  unfold depotref14_Within.f
  repeat' first
      | (with_reducible exact ih0 _ _ _)
      | (with_reducible exact LeO.refl _)
      | (with_reducible exact LeO.none _)
      | (with_reducible refine LeO.ite ?_ ?_)
      | (with_reducible refine LeO.bind ?_ (fun _ => ?_))
      | exact ih0 _ _ _
      | exact LeO.none _
      | refine LeO.ite ?_ ?_
      | refine LeO.bind ?_ (fun _ => ?_)
set_option maxHeartbeats 8000000 in
set_option maxRecDepth 100000 in
theorem depotref14_Within.calls (k : Nat) (a0 : ByteArray) (a1 : ByteArray) (r : Bool) (w : World) (h : depotref14_Within.f k a0 a1 = some r) :
    Calls Try.prog 34 #[.string a0, .string a1] w fun e w' => e = .returned (.bool r) ∧ Drawn0 w w' := by
  have H : (depotref14_Within.l0 k a0 a1 0) = some r := h
  clear h
  have H' := Aside0.mk H
  clear H
  go_enter Try.func34, Try.ntmps34
  go_wp2
  go_loopg [5] k (fun kq v5 w' => ∃ (x5_1 : Int), v5 = .int .i64 x5_1 ∧ Aside0 (depotref14_Within.l0 kq a0 a1 x5_1 = some r) ∧ Aside0 (kq ≤ k) ∧ Drawn0 w w')
  case atStart => exact ⟨(0), (by first | rfl | (simp; done) | (simp [*]; done)), H', ⟨Nat.le_refl _⟩, by repeat (first | exact Drawn0.refl _ | apply Drawn0.step)⟩
  case round =>
    clear H'
    try clear p2
    obtain ⟨x5_1, rfl, HA, HK1, ⟨m1, rfl⟩⟩ := hrel
    cases gk with
    | zero => exact absurd HA.out (by simp [depotref14_Within.l0])
    | succ k1 =>
      have H := HA.out
      clear HA
      simp only [depotref14_Within.l0] at H
      by_cases c3 : x5_1 < (a0.size : Int)
      · rw [if_pos c3] at H
        have c3b0 : decide (x5_1 < (a0.size : Int)) = true := decide_eq_true c3
        clear c3
        replace H := Option.bind_eq_some_iff.mp H
        obtain ⟨t257, A40, H⟩ := H
        replace H : (if t257 = true then (some true) else (depotref14_Within.l0 k1 a0 a1 (wrap64 (x5_1 + 1)))) = some r := H
        have A4 := Aside0.mk A40
        clear A40
        by_cases c5 : t257 = true
        · subst c5
          have H1 : (some true) = some r := by rw [if_pos rfl] at H; exact H
          clear H
          have H := H1
          clear H1
          obtain rfl := Option.some.inj H
          go_wp2_with (first | ((with_reducible refine gate_callee (f := 24) rfl ?_); refine goesL_ (some 15) rfl rfl Try.func24 (by kernel_rfl) rfl #[.string a0, .string a1, .int .i64 x5_1] rfl (by (try simp only [List.map_toArray, List.map_cons, List.map_nil]); first | done | rfl | (simp only [List.length_drop, List.length_take]; rfl)) ?_; (with_reducible refine (depotref14_At.calls a0 a1 x5_1 true _ A4.out).mono ?_); rintro e w' ⟨rfl, ⟨nd, rfl⟩⟩; refine ⟨_, rfl, ?_⟩))
          go_ret
          exact ⟨by first | rfl | (simp; done) | (simp [*]; done), by repeat (first | exact Drawn0.refl _ | apply Drawn0.step)⟩
        · replace c5 := Bool.eq_false_iff.mpr c5
          subst c5
          have H1 : (depotref14_Within.l0 k1 a0 a1 (wrap64 (x5_1 + 1))) = some r := by rw [if_neg (show ¬ (false = true) by decide)] at H; exact H
          clear H
          have H := H1
          clear H1
          have H' := Aside0.mk H
          clear H
          go_wp2_with (first | ((with_reducible refine gate_callee (f := 24) rfl ?_); refine goesL_ (some 15) rfl rfl Try.func24 (by kernel_rfl) rfl #[.string a0, .string a1, .int .i64 x5_1] rfl (by (try simp only [List.map_toArray, List.map_cons, List.map_nil]); first | done | rfl | (simp only [List.length_drop, List.length_take]; rfl)) ?_; (with_reducible refine (depotref14_At.calls a0 a1 x5_1 false _ A4.out).mono ?_); rintro e w' ⟨rfl, ⟨nd, rfl⟩⟩; refine ⟨_, rfl, ?_⟩))
          go_roundg k1
          case measure => have := HK1.out; omega
          case rel => exact ⟨(wrap64 (x5_1 + 1)), (by first | rfl | (simp; done) | (simp [*]; done)), H', ⟨by have := HK1.out; omega⟩, by repeat (first | exact Drawn0.refl _ | apply Drawn0.step)⟩
      · rw [if_neg c3] at H
        have c3b0 : decide (x5_1 < (a0.size : Int)) = false := decide_eq_false c3
        clear c3
        obtain rfl := Option.some.inj H
        go_wp2
        go_ret
        exact ⟨by first | rfl | (simp; done) | (simp [*]; done), by repeat (first | exact Drawn0.refl _ | apply Drawn0.step)⟩

end Go.Proofs.Ytbllmpfdhcbkpaa.Q
/- By a program of this session's: a plain Lean function for a Go function, and its contract. -/
namespace Go.Proofs.Ytbllmpfdhcbkpaa.Q
open Go.RowKit Go.Proofs.YtbllmpfdhcbkpaaW.PrintWords Go.Proofs.YtbllmpfdhcbkpaaW.PrintLast Go.Proofs.YtbllmpfdhcbkpaaW.PrintMore
attribute [local go_sem] max2_int min2_int max_two min_two max_three min_three max_four min_four Go.Proofs.Ytbllmpfdhcbkpaa.Ord.str_leq Go.Proofs.Ytbllmpfdhcbkpaa.Ord.str_gtr Go.Proofs.Ytbllmpfdhcbkpaa.Ord.str_geq   -- for this text's walks alone
set_option linter.unusedVariables false
set_option linter.unusedSimpArgs false

/-! ### depotref14_Found: function 23 -/
mutual
def depotref14_Found.l0 : Nat → List ByteArray → ByteArray → List ByteArray → Option (List ByteArray)
  | 0, _, _, _ => none
  | k + 1, x0, x1, x5 => depotref14_Found.l1 k x0 x1 x5 (⟨#[]⟩ : ByteArray) 0
def depotref14_Found.l1 : Nat → List ByteArray → ByteArray → List ByteArray → ByteArray → Int → Option (List ByteArray)
  | 0, _, _, _, _, _ => none
  | k + 1, x0, x1, x5, x6, x7 => if x7 < (x0.length : Int) then (if 0 ≤ x7 then (if (x5.length : Int) = 0 then (if x6.toList = ([] : List UInt8) then ((depotref14_Within.f k x1 (rdOf ByteArray.empty x0 x7)).bind fun t259 => (if t259 = true then (depotref14_Found.l1 k x0 x1 x5 (rdOf ByteArray.empty x0 x7) (wrap64 (x7 + 1))) else (depotref14_Found.l1 k x0 x1 x5 x6 (wrap64 (x7 + 1))))) else (if (Op.bytesLess ((rdOf ByteArray.empty x0 x7).toList) x6.toList) = true then ((depotref14_Within.f k x1 (rdOf ByteArray.empty x0 x7)).bind fun t260 => (if t260 = true then (depotref14_Found.l1 k x0 x1 x5 (rdOf ByteArray.empty x0 x7) (wrap64 (x7 + 1))) else (depotref14_Found.l1 k x0 x1 x5 x6 (wrap64 (x7 + 1))))) else (depotref14_Found.l1 k x0 x1 x5 x6 (wrap64 (x7 + 1))))) else (if 0 ≤ (wrap64 ((x5.length : Int) - 1)) then (if (wrap64 ((x5.length : Int) - 1)) < (x5.length : Int) then (if (Op.bytesLess ((rdOf ByteArray.empty x5 (wrap64 ((x5.length : Int) - 1))).toList) ((rdOf ByteArray.empty x0 x7).toList)) = true then (if x6.toList = ([] : List UInt8) then ((depotref14_Within.f k x1 (rdOf ByteArray.empty x0 x7)).bind fun t262 => (if t262 = true then (depotref14_Found.l1 k x0 x1 x5 (rdOf ByteArray.empty x0 x7) (wrap64 (x7 + 1))) else (depotref14_Found.l1 k x0 x1 x5 x6 (wrap64 (x7 + 1))))) else (if (Op.bytesLess ((rdOf ByteArray.empty x0 x7).toList) x6.toList) = true then ((depotref14_Within.f k x1 (rdOf ByteArray.empty x0 x7)).bind fun t263 => (if t263 = true then (depotref14_Found.l1 k x0 x1 x5 (rdOf ByteArray.empty x0 x7) (wrap64 (x7 + 1))) else (depotref14_Found.l1 k x0 x1 x5 x6 (wrap64 (x7 + 1))))) else (depotref14_Found.l1 k x0 x1 x5 x6 (wrap64 (x7 + 1))))) else (depotref14_Found.l1 k x0 x1 x5 x6 (wrap64 (x7 + 1)))) else (none)) else (none))) else (none)) else (if x6.toList = ([] : List UInt8) then (some x5) else (if x5.length < 8796093022208 then (depotref14_Found.l0 k x0 x1 (x5 ++ [x6])) else (none)))
end
def depotref14_Found.f (k : Nat) (l0 : List ByteArray) (a1 : ByteArray) : Option (List ByteArray) := depotref14_Found.l0 k l0 a1 ([] : List ByteArray)
theorem depotref14_Found.mono_l : ∀ k, (∀ y0 y1 y2, LeO (depotref14_Found.l0 k y0 y1 y2) (depotref14_Found.l0 (k + 1) y0 y1 y2)) ∧ (∀ y0 y1 y2 y3 y4, LeO (depotref14_Found.l1 k y0 y1 y2 y3 y4) (depotref14_Found.l1 (k + 1) y0 y1 y2 y3 y4))
  | 0 => ⟨fun _ _ _ r h => by simp [depotref14_Found.l0] at h, fun _ _ _ _ _ r h => by simp [depotref14_Found.l1] at h⟩
  | k + 1 => by
    obtain ⟨ih0, ih1⟩ := depotref14_Found.mono_l k
    refine ⟨?_, ?_⟩
    · intro y0 y1 y2
      unfold depotref14_Found.l0
      repeat' first
      | (with_reducible exact ih0 _ _ _)
      | (with_reducible exact ih1 _ _ _ _ _)
      | (with_reducible exact depotref14_Within.mono _ _ _)
      | (with_reducible exact LeO.refl _)
      | (with_reducible exact LeO.none _)
      | (with_reducible refine LeO.ite ?_ ?_)
      | (with_reducible refine LeO.bind ?_ (fun _ => ?_))
      | exact ih0 _ _ _
      | exact ih1 _ _ _ _ _
      | exact depotref14_Within.mono _ _ _
      | exact LeO.none _
      | refine LeO.ite ?_ ?_
      | refine LeO.bind ?_ (fun _ => ?_)
    · intro y0 y1 y2 y3 y4
      unfold depotref14_Found.l1
      repeat' first
      | (with_reducible exact ih0 _ _ _)
      | (with_reducible exact ih1 _ _ _ _ _)
      | (with_reducible exact depotref14_Within.mono _ _ _)
      | (with_reducible exact LeO.refl _)
      | (with_reducible exact LeO.none _)
      | (with_reducible refine LeO.ite ?_ ?_)
      | (with_reducible refine LeO.bind ?_ (fun _ => ?_))
      | exact ih0 _ _ _
      | exact ih1 _ _ _ _ _
      | exact depotref14_Within.mono _ _ _
      | exact LeO.none _
      | refine LeO.ite ?_ ?_
      | refine LeO.bind ?_ (fun _ => ?_)
theorem depotref14_Found.mono : ∀ a0 a1 k, LeO (depotref14_Found.f k a0 a1) (depotref14_Found.f (k + 1) a0 a1) := by
  intro a0 a1 k
  obtain ⟨ih0, ih1⟩ := depotref14_Found.mono_l k
  unfold depotref14_Found.f
  repeat' first
      | (with_reducible exact ih0 _ _ _)
      | (with_reducible exact ih1 _ _ _ _ _)
      | (with_reducible exact depotref14_Within.mono _ _ _)
      | (with_reducible exact LeO.refl _)
      | (with_reducible exact LeO.none _)
      | (with_reducible refine LeO.ite ?_ ?_)
      | (with_reducible refine LeO.bind ?_ (fun _ => ?_))
      | exact ih0 _ _ _
      | exact ih1 _ _ _ _ _
      | exact depotref14_Within.mono _ _ _
      | exact LeO.none _
      | refine LeO.ite ?_ ?_
      | refine LeO.bind ?_ (fun _ => ?_)
set_option maxHeartbeats 8000000 in
set_option maxRecDepth 100000 in
theorem depotref14_Found.calls (k : Nat) (A0 : Option Addr) (c0 : Nat) (l0 : List ByteArray) (a1 : ByteArray) (r : List ByteArray) (w : World) (hr0 : Kd.C Kd.string w A0 l0.length l0) (hc0 : l0.length ≤ c0) (h : depotref14_Found.f k l0 a1 = some r) :
    Calls Try.prog 23 #[.slice A0 l0.length c0, .string a1] w fun e w' => ∃ v0_ : Value, e = .returned (v0_) ∧ Kd.R Kd.string 9 w' w.heap.size (fun _ => True) v0_ r ∧ Below w.heap.size w w' := by
  have HR0 := Aside0.mk hr0
  have HC0 := Aside0.mk hc0
  clear hr0 hc0
  have HB := Aside0.mk (Below.refl w.heap.size w)
  have H : (depotref14_Found.l0 k l0 a1 ([] : List ByteArray)) = some r := h
  clear h
  have H' := Aside0.mk H
  clear H
  go_enter Try.func23, Try.ntmps23
  go_wp2
  go_loopg [5] k (fun kq v5 w' => ∃ (x5_1 : List ByteArray), Aside0 (depotref14_Found.l0 kq l0 a1 x5_1 = some r) ∧ Aside0 (kq ≤ k) ∧ Aside0 (Kd.R Kd.string 9 w' w.heap.size (fun _ => True) v5 x5_1) ∧ Aside0 (Below w.heap.size w w'))
  case atStart => exact ⟨(([] : List ByteArray)), H', ⟨Nat.le_refl _⟩, ⟨by first | exact Kd.R_nil _ _ _ _ _ | exact Kd.N_nil _ _ _ _ _ | exact Kd.V_nil _ _ _ _ _ | exact Kd.Q_nil _ _ _ _ _ | exact Kd.S_nil _ _ _ _ _⟩, ⟨by repeat (first | (with_reducible first | exact HB.out | apply below_alloc | apply pw_below_drewN | apply below_drew1) | exact HB.out)⟩⟩
  case round =>
    clear H'
    try clear c2
    try clear p2
    obtain ⟨x5_1, HA, HK1, HO_5, HB⟩ := hrel
    cases gk with
    | zero => exact absurd HA.out (by simp [depotref14_Found.l0])
    | succ k1 =>
      have H := HA.out
      clear HA
      simp only [depotref14_Found.l0] at H
      have H' := Aside0.mk H
      clear H
      go_wp2
      go_loopg [6, 7] k1 (fun kq v6 v7 w' => ∃ (x6_2 : ByteArray) (x7_2 : Int), v6 = .string x6_2 ∧ v7 = .int .i64 x7_2 ∧ Aside0 (depotref14_Found.l1 kq l0 a1 x5_1 x6_2 x7_2 = some r) ∧ Aside0 (kq ≤ k1) ∧ Aside0 (Kd.R Kd.string 9 w' w.heap.size (fun _ => True) u5 x5_1) ∧ Aside0 (Below w.heap.size w w'))
      case atStart => exact ⟨((⟨#[]⟩ : ByteArray)), (0), (by first | rfl | (simp; done) | (simp [*]; done)), (by first | rfl | (simp; done) | (simp [*]; done)), H', ⟨Nat.le_refl _⟩, ⟨by (with_reducible repeat (first | apply Kd.R_alloc | apply Kd.R_drewN | apply Kd.R_drew)); exact HO_5.out⟩, ⟨by repeat (first | (with_reducible first | exact HB.out | apply below_alloc | apply pw_below_drewN | apply below_drew1) | exact HB.out)⟩⟩
      case round =>
        clear H'
        try clear c2
        try clear p2
        try clear p2
        obtain ⟨x6_2, x7_2, rfl, rfl, HA, HK2, HO_5, HB⟩ := hrel
        cases gk with
        | zero => exact absurd HA.out (by simp [depotref14_Found.l1])
        | succ k2 =>
          have H := HA.out
          clear HA
          simp only [depotref14_Found.l1] at H
          by_cases c3 : x7_2 < (l0.length : Int)
          · rw [if_pos c3] at H
            have c3b0 : decide (x7_2 < (l0.length : Int)) = true := decide_eq_true c3
            clear c3
            by_cases c4 : 0 ≤ x7_2
            · rw [if_pos c4] at H
              have c4b0 : decide (0 ≤ x7_2) = true := decide_eq_true c4
              clear c4
              by_cases c5 : (x5_1.length : Int) = 0
              · rw [if_pos c5] at H
                have c5b0 : ((x5_1.length : Int) == 0) = true := beq_iff_eq.mpr c5
                have c5b1 : ((x5_1.length : Int) != 0) = false := bne_eq_false_iff_eq.mpr c5
                clear c5
                by_cases c6 : x6_2.toList = ([] : List UInt8)
                · rw [if_pos c6] at H
                  have c6b0 : (x6_2.toList == ([] : List UInt8)) = true := beq_iff_eq.mpr c6
                  have c6b1 : (x6_2.toList != ([] : List UInt8)) = false := bne_eq_false_iff_eq.mpr c6
                  clear c6
                  replace H := Option.bind_eq_some_iff.mp H
                  obtain ⟨t259, A70, H⟩ := H
                  replace H : (if t259 = true then (depotref14_Found.l1 k2 l0 a1 x5_1 (rdOf ByteArray.empty l0 x7_2) (wrap64 (x7_2 + 1))) else (depotref14_Found.l1 k2 l0 a1 x5_1 x6_2 (wrap64 (x7_2 + 1)))) = some r := H
                  have A7 := Aside0.mk A70
                  clear A70
                  by_cases c8 : t259 = true
                  · subst c8
                    have H1 : (depotref14_Found.l1 k2 l0 a1 x5_1 (rdOf ByteArray.empty l0 x7_2) (wrap64 (x7_2 + 1))) = some r := by rw [if_pos rfl] at H; exact H
                    clear H
                    have H := H1
                    clear H1
                    have H' := Aside0.mk H
                    clear H
                    have p258 : 0 ≤ (x7_2 : Int) := of_decide_eq_true (by first | (with_reducible assumption) | assumption)
                    have q258 : x7_2 < (l0.length : Int) := of_decide_eq_true (by first | (with_reducible assumption) | assumption)
                    obtain ⟨ad258, e258, hx258_0⟩ := Kd.at_string HR0.out x7_2 p258 q258
                    cases e258
                    replace hx258_0 := (HB.out.cell (World.block_lt_of_cell? w _ hx258_0)).trans hx258_0
                    replace p258 := eq_true p258
                    replace q258 := eq_true q258
                    obtain ⟨Ao9, co9, eo9⟩ := Kd.R_slice HO_5.out
                    subst eo9
                    go_wp2_with (first | (go_at_call 34; (with_reducible refine (depotref14_Within.calls k2 a1 (rdOf ByteArray.empty l0 x7_2) true _ A7.out).mono ?_); rintro e w' ⟨rfl, ⟨nd, rfl⟩⟩))
                    go_roundg k2
                    case measure => have := HK1.out; have := HK2.out; omega
                    case rel => exact ⟨(rdOf ByteArray.empty l0 x7_2), (wrap64 (x7_2 + 1)), (by first | rfl | (simp; done) | (simp [*]; done)), (by first | rfl | (simp; done) | (simp [*]; done)), H', ⟨by have := HK1.out; have := HK2.out; omega⟩, ⟨by (with_reducible repeat (first | apply Kd.R_alloc | apply Kd.R_drewN | apply Kd.R_drew)); exact HO_5.out⟩, ⟨by repeat (first | (with_reducible first | exact HB.out | apply below_alloc | apply pw_below_drewN | apply below_drew1) | exact HB.out)⟩⟩
                  · replace c8 := Bool.eq_false_iff.mpr c8
                    subst c8
                    have H1 : (depotref14_Found.l1 k2 l0 a1 x5_1 x6_2 (wrap64 (x7_2 + 1))) = some r := by rw [if_neg (show ¬ (false = true) by decide)] at H; exact H
                    clear H
                    have H := H1
                    clear H1
                    have H' := Aside0.mk H
                    clear H
                    have p258 : 0 ≤ (x7_2 : Int) := of_decide_eq_true (by first | (with_reducible assumption) | assumption)
                    have q258 : x7_2 < (l0.length : Int) := of_decide_eq_true (by first | (with_reducible assumption) | assumption)
                    obtain ⟨ad258, e258, hx258_0⟩ := Kd.at_string HR0.out x7_2 p258 q258
                    cases e258
                    replace hx258_0 := (HB.out.cell (World.block_lt_of_cell? w _ hx258_0)).trans hx258_0
                    replace p258 := eq_true p258
                    replace q258 := eq_true q258
                    obtain ⟨Ao10, co10, eo10⟩ := Kd.R_slice HO_5.out
                    subst eo10
                    go_wp2_with (first | (go_at_call 34; (with_reducible refine (depotref14_Within.calls k2 a1 (rdOf ByteArray.empty l0 x7_2) false _ A7.out).mono ?_); rintro e w' ⟨rfl, ⟨nd, rfl⟩⟩))
                    go_roundg k2
                    case measure => have := HK1.out; have := HK2.out; omega
                    case rel => exact ⟨(x6_2), (wrap64 (x7_2 + 1)), (by first | rfl | (simp; done) | (simp [*]; done)), (by first | rfl | (simp; done) | (simp [*]; done)), H', ⟨by have := HK1.out; have := HK2.out; omega⟩, ⟨by (with_reducible repeat (first | apply Kd.R_alloc | apply Kd.R_drewN | apply Kd.R_drew)); exact HO_5.out⟩, ⟨by repeat (first | (with_reducible first | exact HB.out | apply below_alloc | apply pw_below_drewN | apply below_drew1) | exact HB.out)⟩⟩
                · rw [if_neg c6] at H
                  have c6b0 : (x6_2.toList == ([] : List UInt8)) = false := beq_eq_false_iff_ne.mpr c6
                  have c6b1 : (x6_2.toList != ([] : List UInt8)) = true := bne_iff_ne.mpr c6
                  by_cases c11 : (Op.bytesLess ((rdOf ByteArray.empty l0 x7_2).toList) x6_2.toList) = true
                  · rw [if_pos c11] at H
                    have c11b0 : (Op.bytesLess ((rdOf ByteArray.empty l0 x7_2).toList) x6_2.toList) = true := c11
                    clear c11
                    replace H := Option.bind_eq_some_iff.mp H
                    obtain ⟨t260, A120, H⟩ := H
                    replace H : (if t260 = true then (depotref14_Found.l1 k2 l0 a1 x5_1 (rdOf ByteArray.empty l0 x7_2) (wrap64 (x7_2 + 1))) else (depotref14_Found.l1 k2 l0 a1 x5_1 x6_2 (wrap64 (x7_2 + 1)))) = some r := H
                    have A12 := Aside0.mk A120
                    clear A120
                    by_cases c13 : t260 = true
                    · subst c13
                      have H1 : (depotref14_Found.l1 k2 l0 a1 x5_1 (rdOf ByteArray.empty l0 x7_2) (wrap64 (x7_2 + 1))) = some r := by rw [if_pos rfl] at H; exact H
                      clear H
                      have H := H1
                      clear H1
                      have H' := Aside0.mk H
                      clear H
                      have p258 : 0 ≤ (x7_2 : Int) := of_decide_eq_true (by first | (with_reducible assumption) | assumption)
                      have q258 : x7_2 < (l0.length : Int) := of_decide_eq_true (by first | (with_reducible assumption) | assumption)
                      obtain ⟨ad258, e258, hx258_0⟩ := Kd.at_string HR0.out x7_2 p258 q258
                      cases e258
                      replace hx258_0 := (HB.out.cell (World.block_lt_of_cell? w _ hx258_0)).trans hx258_0
                      replace p258 := eq_true p258
                      replace q258 := eq_true q258
                      obtain ⟨Ao14, co14, eo14⟩ := Kd.R_slice HO_5.out
                      subst eo14
                      go_wp2_with (first | (go_at_call 34; (with_reducible refine (depotref14_Within.calls k2 a1 (rdOf ByteArray.empty l0 x7_2) true _ A12.out).mono ?_); rintro e w' ⟨rfl, ⟨nd, rfl⟩⟩))
                      go_roundg k2
                      case measure => have := HK1.out; have := HK2.out; omega
                      case rel => exact ⟨(rdOf ByteArray.empty l0 x7_2), (wrap64 (x7_2 + 1)), (by first | rfl | (simp; done) | (simp [*]; done)), (by first | rfl | (simp; done) | (simp [*]; done)), H', ⟨by have := HK1.out; have := HK2.out; omega⟩, ⟨by (with_reducible repeat (first | apply Kd.R_alloc | apply Kd.R_drewN | apply Kd.R_drew)); exact HO_5.out⟩, ⟨by repeat (first | (with_reducible first | exact HB.out | apply below_alloc | apply pw_below_drewN | apply below_drew1) | exact HB.out)⟩⟩
                    · replace c13 := Bool.eq_false_iff.mpr c13
                      subst c13
                      have H1 : (depotref14_Found.l1 k2 l0 a1 x5_1 x6_2 (wrap64 (x7_2 + 1))) = some r := by rw [if_neg (show ¬ (false = true) by decide)] at H; exact H
                      clear H
                      have H := H1
                      clear H1
                      have H' := Aside0.mk H
                      clear H
                      have p258 : 0 ≤ (x7_2 : Int) := of_decide_eq_true (by first | (with_reducible assumption) | assumption)
                      have q258 : x7_2 < (l0.length : Int) := of_decide_eq_true (by first | (with_reducible assumption) | assumption)
                      obtain ⟨ad258, e258, hx258_0⟩ := Kd.at_string HR0.out x7_2 p258 q258
                      cases e258
                      replace hx258_0 := (HB.out.cell (World.block_lt_of_cell? w _ hx258_0)).trans hx258_0
                      replace p258 := eq_true p258
                      replace q258 := eq_true q258
                      obtain ⟨Ao15, co15, eo15⟩ := Kd.R_slice HO_5.out
                      subst eo15
                      go_wp2_with (first | (go_at_call 34; (with_reducible refine (depotref14_Within.calls k2 a1 (rdOf ByteArray.empty l0 x7_2) false _ A12.out).mono ?_); rintro e w' ⟨rfl, ⟨nd, rfl⟩⟩))
                      go_roundg k2
                      case measure => have := HK1.out; have := HK2.out; omega
                      case rel => exact ⟨(x6_2), (wrap64 (x7_2 + 1)), (by first | rfl | (simp; done) | (simp [*]; done)), (by first | rfl | (simp; done) | (simp [*]; done)), H', ⟨by have := HK1.out; have := HK2.out; omega⟩, ⟨by (with_reducible repeat (first | apply Kd.R_alloc | apply Kd.R_drewN | apply Kd.R_drew)); exact HO_5.out⟩, ⟨by repeat (first | (with_reducible first | exact HB.out | apply below_alloc | apply pw_below_drewN | apply below_drew1) | exact HB.out)⟩⟩
                  · rw [if_neg c11] at H
                    have c11b0 : (Op.bytesLess ((rdOf ByteArray.empty l0 x7_2).toList) x6_2.toList) = false := by simpa using c11
                    clear c11
                    have H' := Aside0.mk H
                    clear H
                    have p258 : 0 ≤ (x7_2 : Int) := of_decide_eq_true (by first | (with_reducible assumption) | assumption)
                    have q258 : x7_2 < (l0.length : Int) := of_decide_eq_true (by first | (with_reducible assumption) | assumption)
                    obtain ⟨ad258, e258, hx258_0⟩ := Kd.at_string HR0.out x7_2 p258 q258
                    cases e258
                    replace hx258_0 := (HB.out.cell (World.block_lt_of_cell? w _ hx258_0)).trans hx258_0
                    replace p258 := eq_true p258
                    replace q258 := eq_true q258
                    obtain ⟨Ao16, co16, eo16⟩ := Kd.R_slice HO_5.out
                    subst eo16
                    go_wp2
                    go_roundg k2
                    case measure => have := HK1.out; have := HK2.out; omega
                    case rel => exact ⟨(x6_2), (wrap64 (x7_2 + 1)), (by first | rfl | (simp; done) | (simp [*]; done)), (by first | rfl | (simp; done) | (simp [*]; done)), H', ⟨by have := HK1.out; have := HK2.out; omega⟩, ⟨by (with_reducible repeat (first | apply Kd.R_alloc | apply Kd.R_drewN | apply Kd.R_drew)); exact HO_5.out⟩, ⟨by repeat (first | (with_reducible first | exact HB.out | apply below_alloc | apply pw_below_drewN | apply below_drew1) | exact HB.out)⟩⟩
              · rw [if_neg c5] at H
                have c5b0 : ((x5_1.length : Int) == 0) = false := beq_eq_false_iff_ne.mpr c5
                have c5b1 : ((x5_1.length : Int) != 0) = true := bne_iff_ne.mpr c5
                have c5b2 : ¬ (x5_1 = []) := fun h_ => c5 (by rw [h_]; rfl)
                obtain ⟨ji17, hji17⟩ : ∃ j_ : Int, (wrap64 ((x5_1.length : Int) - 1)) = j_ := ⟨_, rfl⟩
                replace H : (if 0 ≤ (ji17) then (if (ji17) < (x5_1.length : Int) then (if (Op.bytesLess ((rdOf ByteArray.empty x5_1 (ji17)).toList) ((rdOf ByteArray.empty l0 x7_2).toList)) = true then (if x6_2.toList = ([] : List UInt8) then ((depotref14_Within.f k2 a1 (rdOf ByteArray.empty l0 x7_2)).bind fun t262 => (if t262 = true then (depotref14_Found.l1 k2 l0 a1 x5_1 (rdOf ByteArray.empty l0 x7_2) (wrap64 (x7_2 + 1))) else (depotref14_Found.l1 k2 l0 a1 x5_1 x6_2 (wrap64 (x7_2 + 1))))) else (if (Op.bytesLess ((rdOf ByteArray.empty l0 x7_2).toList) x6_2.toList) = true then ((depotref14_Within.f k2 a1 (rdOf ByteArray.empty l0 x7_2)).bind fun t263 => (if t263 = true then (depotref14_Found.l1 k2 l0 a1 x5_1 (rdOf ByteArray.empty l0 x7_2) (wrap64 (x7_2 + 1))) else (depotref14_Found.l1 k2 l0 a1 x5_1 x6_2 (wrap64 (x7_2 + 1))))) else (depotref14_Found.l1 k2 l0 a1 x5_1 x6_2 (wrap64 (x7_2 + 1))))) else (depotref14_Found.l1 k2 l0 a1 x5_1 x6_2 (wrap64 (x7_2 + 1)))) else (none)) else (none)) = some r := by first | (rw [hji17] at H; exact H) | (simp only [hji17] at H ⊢; exact H)
                have hji17w : (IntKind.i64.wrap ((x5_1.length : Int) - 1)) = ji17 := (i64_w _).trans hji17
                by_cases c18 : 0 ≤ (ji17)
                · rw [if_pos c18] at H
                  have c18b0 : decide (0 ≤ (ji17)) = true := decide_eq_true c18
                  clear c18
                  by_cases c19 : (ji17) < (x5_1.length : Int)
                  · rw [if_pos c19] at H
                    have c19b0 : decide ((ji17) < (x5_1.length : Int)) = true := decide_eq_true c19
                    clear c19
                    by_cases c20 : (Op.bytesLess ((rdOf ByteArray.empty x5_1 (ji17)).toList) ((rdOf ByteArray.empty l0 x7_2).toList)) = true
                    · rw [if_pos c20] at H
                      have c20b0 : (Op.bytesLess ((rdOf ByteArray.empty x5_1 (ji17)).toList) ((rdOf ByteArray.empty l0 x7_2).toList)) = true := c20
                      clear c20
                      by_cases c21 : x6_2.toList = ([] : List UInt8)
                      · rw [if_pos c21] at H
                        have c21b0 : (x6_2.toList == ([] : List UInt8)) = true := beq_iff_eq.mpr c21
                        have c21b1 : (x6_2.toList != ([] : List UInt8)) = false := bne_eq_false_iff_eq.mpr c21
                        clear c21
                        replace H := Option.bind_eq_some_iff.mp H
                        obtain ⟨t262, A220, H⟩ := H
                        replace H : (if t262 = true then (depotref14_Found.l1 k2 l0 a1 x5_1 (rdOf ByteArray.empty l0 x7_2) (wrap64 (x7_2 + 1))) else (depotref14_Found.l1 k2 l0 a1 x5_1 x6_2 (wrap64 (x7_2 + 1)))) = some r := H
                        have A22 := Aside0.mk A220
                        clear A220
                        by_cases c23 : t262 = true
                        · subst c23
                          have H1 : (depotref14_Found.l1 k2 l0 a1 x5_1 (rdOf ByteArray.empty l0 x7_2) (wrap64 (x7_2 + 1))) = some r := by rw [if_pos rfl] at H; exact H
                          clear H
                          have H := H1
                          clear H1
                          have H' := Aside0.mk H
                          clear H
                          have p258 : 0 ≤ (x7_2 : Int) := of_decide_eq_true (by first | (with_reducible assumption) | assumption)
                          have q258 : x7_2 < (l0.length : Int) := of_decide_eq_true (by first | (with_reducible assumption) | assumption)
                          obtain ⟨ad258, e258, hx258_0⟩ := Kd.at_string HR0.out x7_2 p258 q258
                          cases e258
                          replace hx258_0 := (HB.out.cell (World.block_lt_of_cell? w _ hx258_0)).trans hx258_0
                          replace p258 := eq_true p258
                          replace q258 := eq_true q258
                          obtain ⟨Ao24, co24, eo24⟩ := Kd.R_slice HO_5.out
                          subst eo24
                          have p261 : 0 ≤ ((ji17) : Int) := of_decide_eq_true (by first | (with_reducible assumption) | assumption)
                          have q261 : (ji17) < (x5_1.length : Int) := of_decide_eq_true (by first | (with_reducible assumption) | assumption)
                          obtain ⟨ad261, e261, hx261_0⟩ := Kd.at_string (Kd.R_reads' HO_5.out).2.2 (ji17) p261 q261
                          cases e261
                          replace p261 := eq_true p261
                          replace q261 := eq_true q261
                          go_wp2_with (first | (go_at_call 34; (with_reducible refine (depotref14_Within.calls k2 a1 (rdOf ByteArray.empty l0 x7_2) true _ A22.out).mono ?_); rintro e w' ⟨rfl, ⟨nd, rfl⟩⟩))
                          go_roundg k2
                          case measure => have := HK1.out; have := HK2.out; omega
                          case rel => exact ⟨(rdOf ByteArray.empty l0 x7_2), (wrap64 (x7_2 + 1)), (by first | rfl | (simp; done) | (simp [*]; done)), (by first | rfl | (simp; done) | (simp [*]; done)), H', ⟨by have := HK1.out; have := HK2.out; omega⟩, ⟨by (with_reducible repeat (first | apply Kd.R_alloc | apply Kd.R_drewN | apply Kd.R_drew)); exact HO_5.out⟩, ⟨by repeat (first | (with_reducible first | exact HB.out | apply below_alloc | apply pw_below_drewN | apply below_drew1) | exact HB.out)⟩⟩
                        · replace c23 := Bool.eq_false_iff.mpr c23
                          subst c23
                          have H1 : (depotref14_Found.l1 k2 l0 a1 x5_1 x6_2 (wrap64 (x7_2 + 1))) = some r := by rw [if_neg (show ¬ (false = true) by decide)] at H; exact H
                          clear H
                          have H := H1
                          clear H1
                          have H' := Aside0.mk H
                          clear H
                          have p258 : 0 ≤ (x7_2 : Int) := of_decide_eq_true (by first | (with_reducible assumption) | assumption)
                          have q258 : x7_2 < (l0.length : Int) := of_decide_eq_true (by first | (with_reducible assumption) | assumption)
                          obtain ⟨ad258, e258, hx258_0⟩ := Kd.at_string HR0.out x7_2 p258 q258
                          cases e258
                          replace hx258_0 := (HB.out.cell (World.block_lt_of_cell? w _ hx258_0)).trans hx258_0
                          replace p258 := eq_true p258
                          replace q258 := eq_true q258
                          obtain ⟨Ao25, co25, eo25⟩ := Kd.R_slice HO_5.out
                          subst eo25
                          have p261 : 0 ≤ ((ji17) : Int) := of_decide_eq_true (by first | (with_reducible assumption) | assumption)
                          have q261 : (ji17) < (x5_1.length : Int) := of_decide_eq_true (by first | (with_reducible assumption) | assumption)
                          obtain ⟨ad261, e261, hx261_0⟩ := Kd.at_string (Kd.R_reads' HO_5.out).2.2 (ji17) p261 q261
                          cases e261
                          replace p261 := eq_true p261
                          replace q261 := eq_true q261
                          go_wp2_with (first | (go_at_call 34; (with_reducible refine (depotref14_Within.calls k2 a1 (rdOf ByteArray.empty l0 x7_2) false _ A22.out).mono ?_); rintro e w' ⟨rfl, ⟨nd, rfl⟩⟩))
                          go_roundg k2
                          case measure => have := HK1.out; have := HK2.out; omega
                          case rel => exact ⟨(x6_2), (wrap64 (x7_2 + 1)), (by first | rfl | (simp; done) | (simp [*]; done)), (by first | rfl | (simp; done) | (simp [*]; done)), H', ⟨by have := HK1.out; have := HK2.out; omega⟩, ⟨by (with_reducible repeat (first | apply Kd.R_alloc | apply Kd.R_drewN | apply Kd.R_drew)); exact HO_5.out⟩, ⟨by repeat (first | (with_reducible first | exact HB.out | apply below_alloc | apply pw_below_drewN | apply below_drew1) | exact HB.out)⟩⟩
                      · rw [if_neg c21] at H
                        have c21b0 : (x6_2.toList == ([] : List UInt8)) = false := beq_eq_false_iff_ne.mpr c21
                        have c21b1 : (x6_2.toList != ([] : List UInt8)) = true := bne_iff_ne.mpr c21
                        by_cases c26 : (Op.bytesLess ((rdOf ByteArray.empty l0 x7_2).toList) x6_2.toList) = true
                        · rw [if_pos c26] at H
                          have c26b0 : (Op.bytesLess ((rdOf ByteArray.empty l0 x7_2).toList) x6_2.toList) = true := c26
                          clear c26
                          replace H := Option.bind_eq_some_iff.mp H
                          obtain ⟨t263, A270, H⟩ := H
                          replace H : (if t263 = true then (depotref14_Found.l1 k2 l0 a1 x5_1 (rdOf ByteArray.empty l0 x7_2) (wrap64 (x7_2 + 1))) else (depotref14_Found.l1 k2 l0 a1 x5_1 x6_2 (wrap64 (x7_2 + 1)))) = some r := H
                          have A27 := Aside0.mk A270
                          clear A270
                          by_cases c28 : t263 = true
                          · subst c28
                            have H1 : (depotref14_Found.l1 k2 l0 a1 x5_1 (rdOf ByteArray.empty l0 x7_2) (wrap64 (x7_2 + 1))) = some r := by rw [if_pos rfl] at H; exact H
                            clear H
                            have H := H1
                            clear H1
                            have H' := Aside0.mk H
                            clear H
                            have p258 : 0 ≤ (x7_2 : Int) := of_decide_eq_true (by first | (with_reducible assumption) | assumption)
                            have q258 : x7_2 < (l0.length : Int) := of_decide_eq_true (by first | (with_reducible assumption) | assumption)
                            obtain ⟨ad258, e258, hx258_0⟩ := Kd.at_string HR0.out x7_2 p258 q258
                            cases e258
                            replace hx258_0 := (HB.out.cell (World.block_lt_of_cell? w _ hx258_0)).trans hx258_0
                            replace p258 := eq_true p258
                            replace q258 := eq_true q258
                            obtain ⟨Ao29, co29, eo29⟩ := Kd.R_slice HO_5.out
                            subst eo29
                            have p261 : 0 ≤ ((ji17) : Int) := of_decide_eq_true (by first | (with_reducible assumption) | assumption)
                            have q261 : (ji17) < (x5_1.length : Int) := of_decide_eq_true (by first | (with_reducible assumption) | assumption)
                            obtain ⟨ad261, e261, hx261_0⟩ := Kd.at_string (Kd.R_reads' HO_5.out).2.2 (ji17) p261 q261
                            cases e261
                            replace p261 := eq_true p261
                            replace q261 := eq_true q261
                            go_wp2_with (first | (go_at_call 34; (with_reducible refine (depotref14_Within.calls k2 a1 (rdOf ByteArray.empty l0 x7_2) true _ A27.out).mono ?_); rintro e w' ⟨rfl, ⟨nd, rfl⟩⟩))
                            go_roundg k2
                            case measure => have := HK1.out; have := HK2.out; omega
                            case rel => exact ⟨(rdOf ByteArray.empty l0 x7_2), (wrap64 (x7_2 + 1)), (by first | rfl | (simp; done) | (simp [*]; done)), (by first | rfl | (simp; done) | (simp [*]; done)), H', ⟨by have := HK1.out; have := HK2.out; omega⟩, ⟨by (with_reducible repeat (first | apply Kd.R_alloc | apply Kd.R_drewN | apply Kd.R_drew)); exact HO_5.out⟩, ⟨by repeat (first | (with_reducible first | exact HB.out | apply below_alloc | apply pw_below_drewN | apply below_drew1) | exact HB.out)⟩⟩
                          · replace c28 := Bool.eq_false_iff.mpr c28
                            subst c28
                            have H1 : (depotref14_Found.l1 k2 l0 a1 x5_1 x6_2 (wrap64 (x7_2 + 1))) = some r := by rw [if_neg (show ¬ (false = true) by decide)] at H; exact H
                            clear H
                            have H := H1
                            clear H1
                            have H' := Aside0.mk H
                            clear H
                            have p258 : 0 ≤ (x7_2 : Int) := of_decide_eq_true (by first | (with_reducible assumption) | assumption)
                            have q258 : x7_2 < (l0.length : Int) := of_decide_eq_true (by first | (with_reducible assumption) | assumption)
                            obtain ⟨ad258, e258, hx258_0⟩ := Kd.at_string HR0.out x7_2 p258 q258
                            cases e258
                            replace hx258_0 := (HB.out.cell (World.block_lt_of_cell? w _ hx258_0)).trans hx258_0
                            replace p258 := eq_true p258
                            replace q258 := eq_true q258
                            obtain ⟨Ao30, co30, eo30⟩ := Kd.R_slice HO_5.out
                            subst eo30
                            have p261 : 0 ≤ ((ji17) : Int) := of_decide_eq_true (by first | (with_reducible assumption) | assumption)
                            have q261 : (ji17) < (x5_1.length : Int) := of_decide_eq_true (by first | (with_reducible assumption) | assumption)
                            obtain ⟨ad261, e261, hx261_0⟩ := Kd.at_string (Kd.R_reads' HO_5.out).2.2 (ji17) p261 q261
                            cases e261
                            replace p261 := eq_true p261
                            replace q261 := eq_true q261
                            go_wp2_with (first | (go_at_call 34; (with_reducible refine (depotref14_Within.calls k2 a1 (rdOf ByteArray.empty l0 x7_2) false _ A27.out).mono ?_); rintro e w' ⟨rfl, ⟨nd, rfl⟩⟩))
                            go_roundg k2
                            case measure => have := HK1.out; have := HK2.out; omega
                            case rel => exact ⟨(x6_2), (wrap64 (x7_2 + 1)), (by first | rfl | (simp; done) | (simp [*]; done)), (by first | rfl | (simp; done) | (simp [*]; done)), H', ⟨by have := HK1.out; have := HK2.out; omega⟩, ⟨by (with_reducible repeat (first | apply Kd.R_alloc | apply Kd.R_drewN | apply Kd.R_drew)); exact HO_5.out⟩, ⟨by repeat (first | (with_reducible first | exact HB.out | apply below_alloc | apply pw_below_drewN | apply below_drew1) | exact HB.out)⟩⟩
                        · rw [if_neg c26] at H
                          have c26b0 : (Op.bytesLess ((rdOf ByteArray.empty l0 x7_2).toList) x6_2.toList) = false := by simpa using c26
                          clear c26
                          have H' := Aside0.mk H
                          clear H
                          have p258 : 0 ≤ (x7_2 : Int) := of_decide_eq_true (by first | (with_reducible assumption) | assumption)
                          have q258 : x7_2 < (l0.length : Int) := of_decide_eq_true (by first | (with_reducible assumption) | assumption)
                          obtain ⟨ad258, e258, hx258_0⟩ := Kd.at_string HR0.out x7_2 p258 q258
                          cases e258
                          replace hx258_0 := (HB.out.cell (World.block_lt_of_cell? w _ hx258_0)).trans hx258_0
                          replace p258 := eq_true p258
                          replace q258 := eq_true q258
                          obtain ⟨Ao31, co31, eo31⟩ := Kd.R_slice HO_5.out
                          subst eo31
                          have p261 : 0 ≤ ((ji17) : Int) := of_decide_eq_true (by first | (with_reducible assumption) | assumption)
                          have q261 : (ji17) < (x5_1.length : Int) := of_decide_eq_true (by first | (with_reducible assumption) | assumption)
                          obtain ⟨ad261, e261, hx261_0⟩ := Kd.at_string (Kd.R_reads' HO_5.out).2.2 (ji17) p261 q261
                          cases e261
                          replace p261 := eq_true p261
                          replace q261 := eq_true q261
                          go_wp2
                          go_roundg k2
                          case measure => have := HK1.out; have := HK2.out; omega
                          case rel => exact ⟨(x6_2), (wrap64 (x7_2 + 1)), (by first | rfl | (simp; done) | (simp [*]; done)), (by first | rfl | (simp; done) | (simp [*]; done)), H', ⟨by have := HK1.out; have := HK2.out; omega⟩, ⟨by (with_reducible repeat (first | apply Kd.R_alloc | apply Kd.R_drewN | apply Kd.R_drew)); exact HO_5.out⟩, ⟨by repeat (first | (with_reducible first | exact HB.out | apply below_alloc | apply pw_below_drewN | apply below_drew1) | exact HB.out)⟩⟩
                    · rw [if_neg c20] at H
                      have c20b0 : (Op.bytesLess ((rdOf ByteArray.empty x5_1 (ji17)).toList) ((rdOf ByteArray.empty l0 x7_2).toList)) = false := by simpa using c20
                      clear c20
                      have H' := Aside0.mk H
                      clear H
                      have p258 : 0 ≤ (x7_2 : Int) := of_decide_eq_true (by first | (with_reducible assumption) | assumption)
                      have q258 : x7_2 < (l0.length : Int) := of_decide_eq_true (by first | (with_reducible assumption) | assumption)
                      obtain ⟨ad258, e258, hx258_0⟩ := Kd.at_string HR0.out x7_2 p258 q258
                      cases e258
                      replace hx258_0 := (HB.out.cell (World.block_lt_of_cell? w _ hx258_0)).trans hx258_0
                      replace p258 := eq_true p258
                      replace q258 := eq_true q258
                      obtain ⟨Ao32, co32, eo32⟩ := Kd.R_slice HO_5.out
                      subst eo32
                      have p261 : 0 ≤ ((ji17) : Int) := of_decide_eq_true (by first | (with_reducible assumption) | assumption)
                      have q261 : (ji17) < (x5_1.length : Int) := of_decide_eq_true (by first | (with_reducible assumption) | assumption)
                      obtain ⟨ad261, e261, hx261_0⟩ := Kd.at_string (Kd.R_reads' HO_5.out).2.2 (ji17) p261 q261
                      cases e261
                      replace p261 := eq_true p261
                      replace q261 := eq_true q261
                      go_wp2
                      go_roundg k2
                      case measure => have := HK1.out; have := HK2.out; omega
                      case rel => exact ⟨(x6_2), (wrap64 (x7_2 + 1)), (by first | rfl | (simp; done) | (simp [*]; done)), (by first | rfl | (simp; done) | (simp [*]; done)), H', ⟨by have := HK1.out; have := HK2.out; omega⟩, ⟨by (with_reducible repeat (first | apply Kd.R_alloc | apply Kd.R_drewN | apply Kd.R_drew)); exact HO_5.out⟩, ⟨by repeat (first | (with_reducible first | exact HB.out | apply below_alloc | apply pw_below_drewN | apply below_drew1) | exact HB.out)⟩⟩
                  · rw [if_neg c19] at H
                    exact absurd H (by simp)
                · rw [if_neg c18] at H
                  exact absurd H (by simp)
            · rw [if_neg c4] at H
              exact absurd H (by simp)
          · rw [if_neg c3] at H
            have c3b0 : decide (x7_2 < (l0.length : Int)) = false := decide_eq_false c3
            clear c3
            by_cases c33 : x6_2.toList = ([] : List UInt8)
            · rw [if_pos c33] at H
              have c33b0 : (x6_2.toList == ([] : List UInt8)) = true := beq_iff_eq.mpr c33
              have c33b1 : (x6_2.toList != ([] : List UInt8)) = false := bne_eq_false_iff_eq.mpr c33
              clear c33
              obtain rfl := Option.some.inj H
              go_wp2
              go_ret
              exact ⟨_, by first | rfl | (simp [errW_none, errW_some] <;> rfl) | (simp [*, errW_none, errW_some] <;> rfl), by (with_reducible repeat (first | apply Kd.R_alloc | apply Kd.R_drewN | apply Kd.R_drew)); exact HO_5.out, by repeat (first | (with_reducible first | exact HB.out | apply below_alloc | apply pw_below_drewN | apply below_drew1) | exact HB.out)⟩
            · rw [if_neg c33] at H
              have c33b0 : (x6_2.toList == ([] : List UInt8)) = false := beq_eq_false_iff_ne.mpr c33
              have c33b1 : (x6_2.toList != ([] : List UInt8)) = true := bne_iff_ne.mpr c33
              by_cases c34 : x5_1.length < 8796093022208
              · rw [if_pos c34] at H
                have LMc34 := Aside0.mk c34
                clear c34
                obtain ⟨y264, hy264⟩ : ∃ y_ : List ByteArray, y_ = (x5_1 ++ [x6_2]) := ⟨_, rfl⟩
                replace H : (depotref14_Found.l0 k2 l0 a1 y264) = some r := by first | (rw [hy264]; with_reducible exact H) | (have H2_ := (Option.bind_some _ _).symm.trans H; rw [hy264]; with_reducible exact H2_) | (have H2_ := (Option.bind_some _ _).symm.trans H; with_reducible exact H2_) | with_reducible exact H | (rw [hy264]; exact H) | exact H
                have Ny264 := Aside0.mk hy264
                clear hy264
                have H' := Aside0.mk H
                clear H
                go_wp2_with (first | ((with_reducible refine gate_builtin (b := .append) (xs := #[.tmp 52, .tmp 54]) rfl ?_); (try (refine gate_guard (by rfl) ?_; dsimp only)); at_builtin; refine Kd.R_append Kd.string (w0 := w) w.heap.size rfl (.tmp 52) (.tmp 54) 34 9 (.string ⟨#[]⟩) 16 rfl Try.underlying34 info9 rfl (by decide) (by omega) u5 x5_1 x6_2 [.string x6_2] (fun _ => True) (fun _ => False) rfl rfl ?aP (fun _ hk => hk.elim) ?aF ?aO ?aB ?aS ?aL ?_; (case aP => exact rfl); (case aB => exact (by repeat (first | (with_reducible first | exact HB.out | apply below_alloc | apply pw_below_drewN | apply below_drew1) | exact HB.out))); (case aF => exact (fun _ _ => trivial)); (case aO => exact (by (with_reducible repeat (first | apply Kd.R_alloc | apply Kd.R_drewN | apply Kd.R_drew)); exact HO_5.out)); (case aS => exact (below_size (by repeat (first | (with_reducible first | exact HB.out | apply below_alloc | apply pw_below_drewN | apply below_drew1) | exact HB.out)))); (case aL => have := LMc34.out; omega); intro v265 w35 ho hb hg hat; rw [← Ny264.out] at ho; have n0_ := Aside0.mk (hb); have n1_ := Aside0.mk (ho); clear HB; clear HO_5; have HB := n0_; have HO266 := n1_; clear n0_ n1_; clear ho hb hg hat))
                go_roundg k2
                case measure => have := HK1.out; have := HK2.out; omega
                case rel => exact ⟨(y264), H', ⟨by have := HK1.out; have := HK2.out; omega⟩, ⟨by (with_reducible repeat (first | apply Kd.R_alloc | apply Kd.R_drewN | apply Kd.R_drew)); exact HO266.out⟩, ⟨by repeat (first | (with_reducible first | exact HB.out | apply below_alloc | apply pw_below_drewN | apply below_drew1) | exact HB.out)⟩⟩
              · rw [if_neg c34] at H
                exact absurd H (by simp)

end Go.Proofs.Ytbllmpfdhcbkpaa.Q
/- By a program of this session's: a plain Lean function for a Go function, and its contract. -/
namespace Go.Proofs.Ytbllmpfdhcbkpaa.Q
open Go.RowKit Go.Proofs.YtbllmpfdhcbkpaaW.PrintWords Go.Proofs.YtbllmpfdhcbkpaaW.PrintLast Go.Proofs.YtbllmpfdhcbkpaaW.PrintMore
attribute [local go_sem] max2_int min2_int max_two min_two max_three min_three max_four min_four Go.Proofs.Ytbllmpfdhcbkpaa.Ord.str_leq Go.Proofs.Ytbllmpfdhcbkpaa.Ord.str_gtr Go.Proofs.Ytbllmpfdhcbkpaa.Ord.str_geq   -- for this text's walks alone
set_option linter.unusedVariables false
set_option linter.unusedSimpArgs false

/-! ### depotlaw14_texts: function 20 -/
def depotlaw14_texts.l0 : Nat → List ByteArray → List ByteArray → Int → Int → Option (Bool)
  | 0, _, _, _, _ => none
  | k + 1, x0, x1, x12, x13 => if x13 < x12 then (if 0 ≤ x13 then (if x13 < (x0.length : Int) then (if x13 < (x1.length : Int) then (if (rdOf ByteArray.empty x0 x13).toList = (rdOf ByteArray.empty x1 x13).toList then (depotlaw14_texts.l0 k x0 x1 x12 (wrap64 (x13 + 1))) else (some false)) else (none)) else (none)) else (none)) else (some true)
def depotlaw14_texts.f (k : Nat) (l0 : List ByteArray) (l1 : List ByteArray) : Option (Bool) := if (l0.length : Int) = (l1.length : Int) then (depotlaw14_texts.l0 k l0 l1 (l0.length : Int) 0) else (some false)
theorem depotlaw14_texts.mono_l : ∀ k, (∀ y0 y1 y2 y3, LeO (depotlaw14_texts.l0 k y0 y1 y2 y3) (depotlaw14_texts.l0 (k + 1) y0 y1 y2 y3))
  | 0 => fun _ _ _ _ r h => by simp [depotlaw14_texts.l0] at h
  | k + 1 => by
    have ih0 := depotlaw14_texts.mono_l k
    · intro y0 y1 y2 y3
      unfold depotlaw14_texts.l0
      repeat' first
      | (with_reducible exact ih0 _ _ _ _)
      | (with_reducible exact LeO.refl _)
      | (with_reducible exact LeO.none _)
      | (with_reducible refine LeO.ite ?_ ?_)
      | (with_reducible refine LeO.bind ?_ (fun _ => ?_))
      | exact ih0 _ _ _ _
      | exact LeO.none _
      | refine LeO.ite ?_ ?_
      | refine LeO.bind ?_ (fun _ => ?_)
theorem depotlaw14_texts.mono : ∀ a0 a1 k, LeO (depotlaw14_texts.f k a0 a1) (depotlaw14_texts.f (k + 1) a0 a1) := by
  intro a0 a1 k
  have ih0 := depotlaw14_texts.mono_l k
  unfold depotlaw14_texts.f
  repeat' first
      | (with_reducible exact ih0 _ _ _ _)
      | (with_reducible exact LeO.refl _)
      | (with_reducible exact LeO.none _)
      | (with_reducible refine LeO.ite ?_ ?_)
      | (with_reducible refine LeO.bind ?_ (fun _ => ?_))
      | exact ih0 _ _ _ _
      | exact LeO.none _
      | refine LeO.ite ?_ ?_
      | refine LeO.bind ?_ (fun _ => ?_)
set_option maxHeartbeats 8000000 in
set_option maxRecDepth 100000 in
theorem depotlaw14_texts.calls (k : Nat) (A0 : Option Addr) (c0 : Nat) (l0 : List ByteArray) (A1 : Option Addr) (c1 : Nat) (l1 : List ByteArray) (r : Bool) (w : World) (hr0 : Kd.C Kd.string w A0 l0.length l0) (hc0 : l0.length ≤ c0) (hr1 : Kd.C Kd.string w A1 l1.length l1) (hc1 : l1.length ≤ c1) (h : depotlaw14_texts.f k l0 l1 = some r) :
    Calls Try.prog 20 #[.slice A0 l0.length c0, .slice A1 l1.length c1] w fun e w' => e = .returned (.bool r) ∧ Drawn0 w w' := by
  have HR0 := Aside0.mk hr0
  have HC0 := Aside0.mk hc0
  clear hr0 hc0
  have HR1 := Aside0.mk hr1
  have HC1 := Aside0.mk hc1
  clear hr1 hc1
  have H : (if (l0.length : Int) = (l1.length : Int) then (depotlaw14_texts.l0 k l0 l1 (l0.length : Int) 0) else (some false)) = some r := h
  clear h
  by_cases c3 : (l0.length : Int) = (l1.length : Int)
  · rw [if_pos c3] at H
    have c3b0 : ((l0.length : Int) == (l1.length : Int)) = true := beq_iff_eq.mpr c3
    have c3b1 : ((l0.length : Int) != (l1.length : Int)) = false := bne_eq_false_iff_eq.mpr c3
    have c3b2 : (l0.length == l1.length) = true := by first | simpa using c3 | (simp at c3 ⊢; omega)
    clear c3
    have H' := Aside0.mk H
    clear H
    go_enter Try.func20, Try.ntmps20
    go_wp2
    repeat (go_quiet (fail); try go_wp2)
    go_loopg [13] k (fun kq v13 w' => ∃ (x13_1 : Int), v13 = .int .i64 x13_1 ∧ Aside0 (depotlaw14_texts.l0 kq l0 l1 (l0.length : Int) x13_1 = some r) ∧ Aside0 (kq ≤ k) ∧ Drawn0 w w')
    case atStart => exact ⟨(0), (by first | rfl | (simp; done) | (simp [*]; done)), H', ⟨Nat.le_refl _⟩, by repeat (first | exact Drawn0.refl _ | apply Drawn0.step)⟩
    case round =>
      clear H'
      try clear c1
      try clear c2
      try clear p2
      try clear c3
      try clear c3b0
      try clear c3b1
      try clear c3b2
      obtain ⟨x13_1, rfl, HA, HK1, ⟨m1, rfl⟩⟩ := hrel
      cases gk with
      | zero => exact absurd HA.out (by simp [depotlaw14_texts.l0])
      | succ k1 =>
        have H := HA.out
        clear HA
        simp only [depotlaw14_texts.l0] at H
        by_cases c4 : x13_1 < (l0.length : Int)
        · rw [if_pos c4] at H
          have c4b0 : decide (x13_1 < (l0.length : Int)) = true := decide_eq_true c4
          clear c4
          by_cases c5 : 0 ≤ x13_1
          · rw [if_pos c5] at H
            have c5b0 : decide (0 ≤ x13_1) = true := decide_eq_true c5
            clear c5
            by_cases c6 : x13_1 < (l0.length : Int)
            · rw [if_pos c6] at H
              have c6b0 : decide (x13_1 < (l0.length : Int)) = true := decide_eq_true c6
              clear c6
              by_cases c7 : x13_1 < (l1.length : Int)
              · rw [if_pos c7] at H
                have c7b0 : decide (x13_1 < (l1.length : Int)) = true := decide_eq_true c7
                clear c7
                by_cases c8 : (rdOf ByteArray.empty l0 x13_1).toList = (rdOf ByteArray.empty l1 x13_1).toList
                · rw [if_pos c8] at H
                  have c8b0 : ((rdOf ByteArray.empty l0 x13_1).toList == (rdOf ByteArray.empty l1 x13_1).toList) = true := beq_iff_eq.mpr c8
                  have c8b1 : ((rdOf ByteArray.empty l0 x13_1).toList != (rdOf ByteArray.empty l1 x13_1).toList) = false := bne_eq_false_iff_eq.mpr c8
                  clear c8
                  have H' := Aside0.mk H
                  clear H
                  have p255 : 0 ≤ (x13_1 : Int) := of_decide_eq_true (by first | (with_reducible assumption) | assumption)
                  have q255 : x13_1 < (l0.length : Int) := of_decide_eq_true (by first | (with_reducible assumption) | assumption)
                  obtain ⟨ad255, e255, hx255_0⟩ := Kd.at_string HR0.out x13_1 p255 q255
                  cases e255
                  replace p255 := eq_true p255
                  replace q255 := eq_true q255
                  have p256 : 0 ≤ (x13_1 : Int) := of_decide_eq_true (by first | (with_reducible assumption) | assumption)
                  have q256 : x13_1 < (l1.length : Int) := of_decide_eq_true (by first | (with_reducible assumption) | assumption)
                  obtain ⟨ad256, e256, hx256_0⟩ := Kd.at_string HR1.out x13_1 p256 q256
                  cases e256
                  replace p256 := eq_true p256
                  replace q256 := eq_true q256
                  go_wp2
                  repeat (go_quiet (fail); try go_wp2)
                  go_roundg k1
                  case measure => have := HK1.out; omega
                  case rel => exact ⟨(wrap64 (x13_1 + 1)), (by first | rfl | (simp; done) | (simp [*]; done)), H', ⟨by have := HK1.out; omega⟩, by repeat (first | exact Drawn0.refl _ | apply Drawn0.step)⟩
                · rw [if_neg c8] at H
                  have c8b0 : ((rdOf ByteArray.empty l0 x13_1).toList == (rdOf ByteArray.empty l1 x13_1).toList) = false := beq_eq_false_iff_ne.mpr c8
                  have c8b1 : ((rdOf ByteArray.empty l0 x13_1).toList != (rdOf ByteArray.empty l1 x13_1).toList) = true := bne_iff_ne.mpr c8
                  obtain rfl := Option.some.inj H
                  have p255 : 0 ≤ (x13_1 : Int) := of_decide_eq_true (by first | (with_reducible assumption) | assumption)
                  have q255 : x13_1 < (l0.length : Int) := of_decide_eq_true (by first | (with_reducible assumption) | assumption)
                  obtain ⟨ad255, e255, hx255_0⟩ := Kd.at_string HR0.out x13_1 p255 q255
                  cases e255
                  replace p255 := eq_true p255
                  replace q255 := eq_true q255
                  have p256 : 0 ≤ (x13_1 : Int) := of_decide_eq_true (by first | (with_reducible assumption) | assumption)
                  have q256 : x13_1 < (l1.length : Int) := of_decide_eq_true (by first | (with_reducible assumption) | assumption)
                  obtain ⟨ad256, e256, hx256_0⟩ := Kd.at_string HR1.out x13_1 p256 q256
                  cases e256
                  replace p256 := eq_true p256
                  replace q256 := eq_true q256
                  go_wp2
                  repeat (go_quiet (fail); try go_wp2)
                  go_ret
                  exact ⟨by first | rfl | (simp; done) | (simp [*]; done), by repeat (first | exact Drawn0.refl _ | apply Drawn0.step)⟩
              · rw [if_neg c7] at H
                exact absurd H (by simp)
            · rw [if_neg c6] at H
              exact absurd H (by simp)
          · rw [if_neg c5] at H
            exact absurd H (by simp)
        · rw [if_neg c4] at H
          have c4b0 : decide (x13_1 < (l0.length : Int)) = false := decide_eq_false c4
          clear c4
          obtain rfl := Option.some.inj H
          go_wp2
          repeat (go_quiet (fail); try go_wp2)
          go_ret
          exact ⟨by first | rfl | (simp; done) | (simp [*]; done), by repeat (first | exact Drawn0.refl _ | apply Drawn0.step)⟩
  · rw [if_neg c3] at H
    have c3b0 : ((l0.length : Int) == (l1.length : Int)) = false := beq_eq_false_iff_ne.mpr c3
    have c3b1 : ((l0.length : Int) != (l1.length : Int)) = true := bne_iff_ne.mpr c3
    have c3b2 : (l0.length == l1.length) = false := by first | simpa using c3 | (simp at c3 ⊢; omega)
    obtain rfl := Option.some.inj H
    go_enter Try.func20, Try.ntmps20
    go_wp2
    repeat (go_quiet (fail); try go_wp2)
    go_ret
    exact ⟨by first | rfl | (simp; done) | (simp [*]; done), by repeat (first | exact Drawn0.refl _ | apply Drawn0.step)⟩

end Go.Proofs.Ytbllmpfdhcbkpaa.Q
/- The document's Within and Found; texts: in plain Lean. -/
namespace Go.Proofs.Ytbllmpfdhcbkpaa.Scan
open Go.RowKit Go.Proofs.Ytbllmpfdhcbkpaa.Q Go.Proofs.Ytbllmpfdhcbkpaa.SpathPure Go.Proofs.Ytbllmpfdhcbkpaa.Rise Go.Proofs.Ytbllmpfdhcbkpaa.Evs Go.Proofs.YtbllmpfdhcbkpaaW.PrintWords Go.Proofs.YtbllmpfdhcbkpaaW.PrintLast Go.Proofs.YtbllmpfdhcbkpaaW.PrintMore Go.Proofs.Ytbllmpfdhcbkpaa.Bytes
set_option linter.unusedVariables false
set_option linter.unusedSimpArgs false
set_option linter.unusedSectionVars false
theorem ref_within_l0 (text h : ByteArray) (hh : (bs h).length = 32) (hs : text.size ≤ 4294967000) : ∀ n i, i + n = text.size → (∀ a, a < i → ((bs text).drop a).take 32 ≠ bs h) → ∃ b : Bool, (b = true ↔ Occ (bs text) (bs h)) ∧ Ev (fun k => depotref14_Within.l0 k text h (i : Int)) b
  | 0, i, hi, hn => by
    refine ⟨false, ⟨fun e => (by cases e), fun ⟨a, e⟩ => ?_⟩, ?_⟩
    · have := win_length hh e
      rw [← size_bs] at this
      exact absurd e (hn a (by omega))
    · refine succ ?_
      simp only [depotref14_Within.l0]
      exact neg (by omega) (Ev.now _)
  | n + 1, i, hi, hn => by
    by_cases e : ((bs text).drop i).take 32 = bs h
    · refine ⟨true, ⟨fun _ => ⟨i, e⟩, fun _ => rfl⟩, ?_⟩
      refine succ ?_
      simp only [depotref14_Within.l0]
      exact pos (by omega) (call (ref_at text h hh hs i (by omega)) (pos (decide_eq_true e) (Ev.now _)))
    · obtain ⟨b, h1, h2⟩ := ref_within_l0 text h hh hs n (i + 1) (by omega) (fun a ha => by
        rcases Nat.lt_or_eq_of_le (Nat.le_of_lt_succ ha) with h | h
        · exact hn a h
        · rw [h]; exact e)
      refine ⟨b, h1, ?_⟩
      refine succ ?_
      simp only [depotref14_Within.l0]
      refine pos (by omega) (call (ref_at text h hh hs i (by omega)) (neg (by rw [decide_eq_true_eq]; exact e) ?_))
      rw [wr i (by omega)]
      exact h2
theorem within_ev {α : Type} {text h : ByteArray} {r : α} {A B : Nat → Option α} (hh : (bs h).length = 32) (hs : text.size ≤ 4294967000) (hA : Occ (bs text) (bs h) → Ev A r) (hB : ¬ Occ (bs text) (bs h) → Ev B r) :
    Ev (fun k => (depotref14_Within.f k text h).bind fun t => if t = true then A k else B k) r := by
  obtain ⟨b, h1, h2⟩ := ref_within_l0 text h hh hs text.size 0 (by omega) (fun a ha => by omega)
  refine Ev.bind (a := b) h2 ?_
  cases b with
  | true => exact pos rfl (hA (h1.1 rfl))
  | false => exact neg Bool.false_ne_true (hB (fun h => Bool.false_ne_true (h1.2 h)))
theorem mid_ev {α : Type} {text h cur : ByteArray} {r : α} {A B : Nat → Option α} {P : Prop} (hh : (bs h).length = 32) (hs : text.size ≤ 4294967000) (hP : Occ (bs text) (bs h) ↔ P) (hA : P → (cur.toList = [] ∨ Rise.Lt h cur) → Ev A r) (hB : (¬ P ∨ (cur.toList ≠ [] ∧ ¬ Rise.Lt h cur)) → Ev B r) :
    Ev (fun k => if cur.toList = ([] : List UInt8) then ((depotref14_Within.f k text h).bind fun t => if t = true then A k else B k) else (if (Op.bytesLess h.toList cur.toList) = true then ((depotref14_Within.f k text h).bind fun t => if t = true then A k else B k) else B k)) r := by
  by_cases hc : cur.toList = []
  · exact pos hc (within_ev hh hs (fun h => hA (hP.1 h) (Or.inl hc)) (fun h => hB (Or.inl (fun k => h (hP.2 k)))))
  · refine neg hc ?_
    by_cases hl : Op.bytesLess h.toList cur.toList = true
    · exact pos hl (within_ev hh hs (fun h => hA (hP.1 h) (Or.inr hl)) (fun h => hB (Or.inl (fun k => h (hP.2 k)))))
    · exact neg hl (hB (Or.inr ⟨hc, hl⟩))
/-- What stands behind the last that was told. -/
theorem behind {L : List ByteArray} (hL : Sorted L) {j : Nat} (hj : j ≤ L.length) {x : ByteArray} (hx : x ∈ L) : x ∈ L.drop j ↔ j = 0 ∨ ∃ (h : j - 1 < L.length), Rise.Lt L[j - 1] x := by
  obtain ⟨k, hk, e⟩ := List.getElem_of_mem hx
  have hlt := List.pairwise_iff_getElem.1 hL
  constructor
  · intro h
    rcases Nat.eq_zero_or_pos j with h0 | h0
    · exact Or.inl h0
    · obtain ⟨i, hi, e2⟩ := List.getElem_of_mem h
      rw [List.getElem_drop] at e2
      rw [List.length_drop] at hi
      refine Or.inr ⟨by omega, ?_⟩
      rw [← e2]
      exact hlt _ _ _ _ (by omega)
  · rintro (h | ⟨h, hl⟩)
    · rw [h, List.drop_zero]
      exact hx
    · by_cases hkj : j ≤ k
      · have : x = (L.drop j)[k - j]'(by rw [List.length_drop]; omega) := by
          rw [List.getElem_drop, ← e]
          congr 1
          omega
        rw [this]
        exact List.getElem_mem _
      · exfalso
        rw [← e] at hl
        rcases Nat.lt_or_ge k (j - 1) with hh | hh
        · exact lt_asymm hl (hlt _ _ hk h hh)
        · obtain rfl : k = j - 1 := by omega
          exact lt_irr _ hl
/-- The least so far. -/
def Least (hashes L : List ByteArray) (j i : Nat) (cur : ByteArray) : Prop := (cur = ⟨#[]⟩ ∧ ∀ h ∈ hashes.take i, h ∉ L.drop j) ∨ (cur ∈ L.drop j ∧ ∀ h ∈ hashes.take i, h ∈ L.drop j → ¬ Rise.Lt h cur)
theorem Least.skip {hashes L : List ByteArray} {j i : Nat} {cur x : ByteArray} (h : Least hashes L j i cur) (hx : hashes[i]? = some x) (hs : x ∉ L.drop j ∨ (cur.toList ≠ [] ∧ ¬ Rise.Lt x cur)) : Least hashes L j (i + 1) cur := by
  rcases h with ⟨rfl, h⟩ | ⟨hc, h⟩
  · refine Or.inl ⟨rfl, fun y hy => ?_⟩
    rw [take_succ hx, List.mem_append, List.mem_singleton] at hy
    rcases hy with hy | rfl
    · exact h y hy
    · exact hs.resolve_right (fun k => k.1 (by rw [toList_bs]; rfl))
  · refine Or.inr ⟨hc, fun y hy hd => ?_⟩
    rw [take_succ hx, List.mem_append, List.mem_singleton] at hy
    rcases hy with hy | rfl
    · exact h y hy hd
    · rcases hs with hs | hs
      · exact absurd hd hs
      · exact hs.2
theorem Least.take {hashes L : List ByteArray} {j i : Nat} {cur x : ByteArray} (h : Least hashes L j i cur) (hx : hashes[i]? = some x) (hd : x ∈ L.drop j) (hs : cur.toList = [] ∨ Rise.Lt x cur) (hne : ∀ y ∈ L, y.toList ≠ []) : Least hashes L j (i + 1) x := by
  refine Or.inr ⟨hd, fun y hy hdy => ?_⟩
  rw [take_succ hx, List.mem_append, List.mem_singleton] at hy
  rcases hy with hy | rfl
  · rcases h with ⟨rfl, h⟩ | ⟨hc, h⟩
    · exact absurd hdy (h y hy)
    · rcases hs with hs | hs
      · exact absurd hs (hne cur (List.mem_of_mem_drop hc))
      · exact fun k => h y hy hdy (lt_trans k hs)
  · exact lt_irr _
section
variable (hashes : List ByteArray) (text : ByteArray) (L : List ByteArray) (hok : ∀ h ∈ hashes, (bs h).length = 32) (hl : hashes.length ≤ 1099511627776) (hs : text.size ≤ 4294967000) (hL : Sorted L) (hm : ∀ x, x ∈ L ↔ x ∈ hashes ∧ Occ (bs text) (bs x))
include hok hl hs hL hm
theorem len_L : L.length ≤ hashes.length := len_sub L hashes (by
  refine List.Pairwise.imp (fun {a b} h => ?_) hL
  rintro rfl
  exact lt_irr a h) (fun x hx => ((hm x).1 hx).1)
theorem ref_found_l1 (j : Nat) (hj : j ≤ L.length) (next : j < L.length → Ev (fun k => depotref14_Found.l0 k hashes text (L.take (j + 1))) L) : ∀ (d i : Nat) (cur : ByteArray), i + d = hashes.length → Least hashes L j i cur → Ev (fun k => depotref14_Found.l1 k hashes text (L.take j) cur (i : Int)) L
  | 0, i, cur, hi, hI => by
    have hll := len_L hashes text L hok hl hs hL hm
    refine succ ?_
    simp only [depotref14_Found.l1]
    refine neg (by omega) ?_
    obtain rfl : i = hashes.length := by omega
    rcases hI with ⟨rfl, h⟩ | ⟨hc, h⟩
    · refine pos (by rw [toList_bs]; rfl) ?_
      have : L.drop j = [] := by
        cases hd : L.drop j with
        | nil => rfl
        | cons y l =>
          have hy : y ∈ L.drop j := by rw [hd]; exact List.mem_cons_self
          have := h y (by rw [List.take_length]; exact ((hm y).1 (List.mem_of_mem_drop hy)).1)
          exact absurd hy this
      have e := List.take_append_drop j L
      rw [this, List.append_nil] at e
      exact same e.symm (Ev.now _)
    · have hmem := List.mem_of_mem_drop hc
      have hne : cur.toList ≠ [] := fun e => by
        have := hok cur ((hm cur).1 hmem).1
        rw [toList_bs] at e
        rw [e] at this
        cases this
      have hjl : j < L.length := by
        rcases Nat.lt_or_ge j L.length with h | h
        · exact h
        · rw [List.drop_of_length_le h] at hc
          cases hc
      have hd : L.drop j = L[j] :: L.drop (j + 1) := List.drop_eq_getElem_cons hjl
      have hLj : L[j] ∈ L.drop j := by rw [hd]; exact List.mem_cons_self
      have hcur : cur = L[j] := by
        rw [hd, List.mem_cons] at hc
        rcases hc with hc | hc
        · exact hc
        · exfalso
          refine h L[j] (by rw [List.take_length]; exact ((hm _).1 (List.mem_of_mem_drop hLj)).1) hLj ?_
          obtain ⟨k, hk, e⟩ := List.getElem_of_mem hc
          rw [List.getElem_drop] at e
          rw [← e]
          exact List.pairwise_iff_getElem.1 hL _ _ _ _ (by omega)
      refine neg hne (pos (by rw [List.length_take]; omega) ?_)
      have e1 : L.take j ++ [cur] = L.take (j + 1) := by rw [hcur, List.take_add_one, List.getElem?_eq_getElem hjl]; rfl
      rw [e1]
      exact next hjl
  | d + 1, i, cur, hi, hI => by
    have hll := len_L hashes text L hok hl hs hL hm
    have hlt : i < hashes.length := by omega
    have hx : hashes[i]? = some hashes[i] := List.getElem?_eq_getElem hlt
    have hr : rdOf ByteArray.empty hashes (i : Int) = hashes[i] := by rw [rd_nat, List.getD_eq_getElem?_getD, hx]; rfl
    have hxm : hashes[i] ∈ hashes := List.getElem_mem hlt
    have hne : ∀ y ∈ L, y.toList ≠ [] := fun y hy e => by
      have := hok y ((hm y).1 hy).1
      rw [toList_bs] at e
      rw [e] at this
      cases this
    obtain ⟨x, hxe⟩ : ∃ x, hashes[i] = x := ⟨_, rfl⟩
    rw [hxe] at hx hr hxm
    refine succ ?_
    simp only [depotref14_Found.l1]
    rw [hr, wr i (by omega)]
    have kA : x ∈ L.drop j → (cur.toList = [] ∨ Rise.Lt x cur) → Ev (fun k => depotref14_Found.l1 k hashes text (L.take j) x ((i + 1 : Nat) : Int)) L := fun h1 h2 => ref_found_l1 j hj next d (i + 1) x (by omega) (hI.take hx h1 h2 hne)
    have kB : (x ∉ L.drop j ∨ (cur.toList ≠ [] ∧ ¬ Rise.Lt x cur)) → Ev (fun k => depotref14_Found.l1 k hashes text (L.take j) cur ((i + 1 : Nat) : Int)) L := fun h => ref_found_l1 j hj next d (i + 1) cur (by omega) (hI.skip hx h)
    refine pos (by omega) (pos (by omega) ?_)
    have hlj : (L.take j).length = j := by rw [List.length_take]; omega
    rcases Nat.eq_zero_or_pos j with h0 | h0
    · refine pos (by rw [hlj]; omega) ?_
      refine mid_ev (hok x hxm) hs (P := x ∈ L.drop j) ?_ kA kB
      rw [h0, List.drop_zero, hm x]
      exact ⟨fun h => ⟨hxm, h⟩, fun h => h.2⟩
    · have hlast : rdOf ByteArray.empty (L.take j) (wrap64 (((L.take j).length : Int) - 1)) = L[j - 1] := by
        rw [hlj, wl j h0 (by omega), rd_nat, List.getD_eq_getElem?_getD, List.getElem?_take, if_pos (by omega), List.getElem?_eq_getElem (by omega)]
        rfl
      refine neg (by rw [hlj]; omega) ?_
      rw [hlast, hlj, wl j h0 (by omega)]
      refine pos (by omega) (pos (by omega) ?_)
      have hb : x ∈ L → (x ∈ L.drop j ↔ Rise.Lt L[j - 1] x) := fun hxL => by
        rw [behind hL hj hxL]
        constructor
        · rintro (h | ⟨_, h⟩)
          · omega
          · exact h
        · exact fun h => Or.inr ⟨by omega, h⟩
      by_cases hlt2 : Rise.Lt L[j - 1] x
      · refine pos hlt2 ?_
        refine mid_ev (hok x hxm) hs (P := x ∈ L.drop j) ?_ kA kB
        constructor
        · exact fun h => (hb ((hm x).2 ⟨hxm, h⟩)).2 hlt2
        · exact fun h => ((hm x).1 (List.mem_of_mem_drop h)).2
      · exact neg hlt2 (kB (Or.inl (fun h => hlt2 ((hb (List.mem_of_mem_drop h)).1 h))))
theorem ref_found_l0 : ∀ (d j : Nat), j + d = L.length → Ev (fun k => depotref14_Found.l0 k hashes text (L.take j)) L
  | 0, j, hj => by
    refine succ ?_
    simp only [depotref14_Found.l0]
    have := ref_found_l1 hashes text L hok hl hs hL hm j (by omega) (fun h => by omega) hashes.length 0 ⟨#[]⟩ (by omega) (Or.inl ⟨rfl, fun h hh => by rw [List.take_zero] at hh; cases hh⟩)
    exact this
  | d + 1, j, hj => by
    refine succ ?_
    simp only [depotref14_Found.l0]
    have := ref_found_l1 hashes text L hok hl hs hL hm j (by omega) (fun h => ref_found_l0 d (j + 1) (by omega)) hashes.length 0 ⟨#[]⟩ (by omega) (Or.inl ⟨rfl, fun h hh => by rw [List.take_zero] at hh; cases hh⟩)
    exact this
theorem ref_found : Ev (fun k => depotref14_Found.f k hashes text) L := by
  unfold depotref14_Found.f
  have := ref_found_l0 hashes text L hok hl hs hL hm L.length 0 (by omega)
  rwa [List.take_zero] at this
end
theorem texts_l0 (l : List ByteArray) (hl : l.length ≤ 1099511627776) (d : Nat) : ∀ i, i + d = l.length → Ev (fun k => depotlaw14_texts.l0 k l l (l.length : Int) (i : Int)) true := by
  induction d with
  | zero =>
    intro i hi
    refine succ ?_
    simp only [depotlaw14_texts.l0]
    exact neg (by omega) (Ev.now _)
  | succ d ih =>
    intro i hi
    refine succ ?_
    simp only [depotlaw14_texts.l0]
    refine pos (by omega) (pos (by omega) (pos (by omega) (pos (by omega) (pos (by first | rfl | trivial) ?_))))
    rw [wr i (by omega)]
    exact ih (i + 1) (by omega)
theorem texts_same (l : List ByteArray) (hl : l.length ≤ 1099511627776) : Ev (fun k => depotlaw14_texts.f k l l) true := by
  unfold depotlaw14_texts.f
  exact pos (by first | rfl | trivial) (texts_l0 l hl l.length 0 (by omega))
end Go.Proofs.Ytbllmpfdhcbkpaa.Scan
/- The law ScanPlays. -/
namespace Go.Proofs.Ytbllmpfdhcbkpaa.Scan
open Go.Shelf Go.RowKit Go.Proofs.Ytbllmpfdhcbkpaa.Q Go.Proofs.Ytbllmpfdhcbkpaa.SpathPure Go.Proofs.Ytbllmpfdhcbkpaa.Rise Go.Proofs.Ytbllmpfdhcbkpaa.Evs Go.Proofs.YtbllmpfdhcbkpaaW.PrintWords Go.Proofs.YtbllmpfdhcbkpaaW.PrintLast Go.Proofs.YtbllmpfdhcbkpaaW.PrintMore Go.Proofs.Ytbllmpfdhcbkpaa.Bytes
set_option linter.unusedVariables false
set_option linter.unusedSimpArgs false
def total (l : List ByteArray) : Nat := (l.map (fun y => y.size + 1)).sum
theorem total_take (l : List ByteArray) (i : Nat) (p : ByteArray) (h : l[i]? = some p) : total (l.take i) + p.size ≤ total (l.take (i + 1)) := by
  unfold total
  rw [take_succ h, List.map_append, List.sum_append]
  simp
theorem total_le (l : List ByteArray) (i : Nat) : total (l.take i) ≤ total l := by
  have e : total l = total (l.take i) + total (l.drop i) := by
    unfold total
    rw [← List.sum_append, ← List.map_append, List.take_append_drop]
  omega
set_option maxRecDepth 100000 in
set_option maxHeartbeats 8000000 in
theorem plays_true (w : World) (m : Int) (hm : w.cell? ⟨0, 0, none⟩ = some (.int .i64 m)) (A0 : Option Addr) (c0 : Nat) (x0 : List ByteArray) (A1 : Option Addr) (c1 : Nat) (x1 : List ByteArray) (hC0 : Kd.C Kd.string w A0 x0.length x0) (hc0 : x0.length ≤ c0) (hC1 : Kd.C Kd.string w A1 x1.length x1) (hc1 : x1.length ≤ c1)
    (hn0 : x0.length ≤ 1048576) (hz0 : ∀ y ∈ x0, y.size ≤ 1048576) (hu0 : (x0.map (fun y => y.size + 1)).sum ≤ 1048576) (hn1 : x1.length ≤ 1048576) (hz1 : ∀ y ∈ x1, y.size ≤ 1048576) (hu1 : (x1.map (fun y => y.size + 1)).sum ≤ 1048576) :
    Calls Try.prog 7 #[.slice A0 x0.length c0, .slice A1 x1.length c1] w fun e w' => e = .returned (.bool true) ∧ Below w.heap.size w w' := by
  have CA := Aside0.mk (awake_calls w m hm)
  have HX0 := Aside0.mk hC0
  have HX1 := Aside0.mk hC1
  have HC0 := Aside0.mk hc0
  have HU1 := Aside0.mk (show total x1 ≤ 1048576 from hu1)
  have HLN := Aside0.mk (show x0.length ≤ 1099511627776 by omega)
  obtain ⟨kw, hkw⟩ := ref_wanted x0 (by omega)
  have HKW := Aside0.mk (hkw kw (Nat.le_refl _))
  have CW := Aside0.mk (fun (W : World) (hb : Below w.heap.size w W) => depotref14_Wanted.calls kw A0 c0 x0 _ W (Kd.C_below HX0.out hb) HC0.out HKW.out)
  by_cases hw : wantedL x0 = 0
  · have HOK := Aside0.mk (show ∀ h ∈ x0, (bs h).length = 32 from fun h hh => hash_len ((wantedL_zero x0).1 hw h hh))
    have CN := Aside0.mk (fun (W : World) (hb : Below w.heap.size w W) => scn_new W A0 c0 x0 (Kd.C_below HX0.out hb) HC0.out (fun h hh => by have := hz0 h hh; omega) (by omega) hw)
    rw [hw] at CW
    clear hw hkw HKW hm hC0 hC1 hz0 hu0 hz1 hu1
    go_enter Try.func7, Try.ntmps7
    go_wp2_with (first
      | (go_at_call 9; ((with_reducible refine CA.out.mono ?_)); rintro e w1 ⟨rfl, hb⟩; have HB1 := Aside0.mk hb; clear hb)
      | (go_at_call 13; ((with_reducible refine (CN.out w1 HB1.out).mono ?_)); rintro e w2 ⟨rfl, hs, hb⟩; have HS2 := Aside0.mk hs; have HLE := Aside0.mk HB1.out.size; have HB2 := Aside0.mk (HB1.out.trans (hb.mono HB1.out.size)); clear hs hb)
      | (go_at_call 21; ((with_reducible refine (CW.out w2 HB2.out).mono ?_)); rintro e w3 ⟨rfl, hd⟩; have HS3 := Aside0.mk (HS2.out.less hd.below); have HB3 := Aside0.mk (HB2.out.trans (hd.below.mono HB2.out.size)); clear hd))
    go_loopg [7, 32] x1.length (fun g v7 v32 wx => ∃ (i : Nat) (S : ByteArray), i + g = x1.length ∧ v7 = .string S ∧ v32 = .int .i64 (i : Int) ∧ Aside0 (S.size ≤ total (x1.take i)) ∧ Aside0 (Scn wx w1.heap.size (w1.heap.size + 1) x0 (bs S)) ∧ Aside0 (Below w.heap.size w wx))
    case atStart => exact ⟨0, ⟨#[]⟩, by omega, rfl, rfl, ⟨Nat.zero_le _⟩, HS3, HB3⟩
    case round =>
      obtain ⟨i, S, hig, rfl, rfl, HTT, HS, HB⟩ := hrel
      have HSZ := Aside0.mk (show S.size ≤ 1048576 from Nat.le_trans HTT.out (Nat.le_trans (total_le x1 i) HU1.out))
      cases gk with
      | succ g =>
        have hi : i < x1.length := by omega
        have p1 : 0 ≤ (i : Int) := by omega
        have p2 : (i : Int) < (x1.length : Int) := by omega
        obtain ⟨ad, rfl, hl0⟩ := Kd.at_string HX1.out (i : Int) p1 p2
        have ez : rdOf ByteArray.empty x1 (i : Int) = x1[i] := by rw [rd_nat, List.getD_eq_getElem?_getD, List.getElem?_eq_getElem hi]; rfl
        have hx := List.getElem?_eq_getElem hi
        replace hl0 : w.cell? (ad.add i) = some (.string x1[i]) := by rw [← ez]; exact hl0
        replace hl0 := (Fr.of_below (S := fun _ => False) HB.out).cell hl0 (fun h => h)
        obtain ⟨p, hp⟩ : ∃ p, x1[i] = p := ⟨_, rfl⟩
        rw [hp] at hl0 hx
        have hst := total_take x1 i p hx
        have HSP := Aside0.mk (show S.size + p.size ≤ 1048576 from Nat.le_trans (Nat.add_le_add_right HTT.out _) (Nat.le_trans hst (Nat.le_trans (total_le x1 (i + 1)) HU1.out)))
        have HT2 := Aside0.mk (show (S ++ p).size ≤ total (x1.take (i + 1)) by rw [ByteArray.size_append]; have := HTT.out; omega)
        have HSP := Aside0.mk (show (S ++ p).size ≤ 1048576 ∧ S.size + p.size ≤ 1048576 from ⟨by rw [ByteArray.size_append]; exact HSP.out, HSP.out⟩)
        have hcat : (9223372036854775807 < S.size + p.size) = False := eq_false (by have := HSP.out; omega)
        have HPM := Aside0.mk (show p.size ≤ maxLen by have := HSP.out; have : maxLen = 9223372036854775807 := rfl; omega)
        clear ez hp hst hx
        go_wp2_with (first
          | ((with_reducible refine gate_dst (N := 38) rfl ?_); refine wpList_conv rfl (N := 38) rfl (.tmp 37) rfl p rfl HPM.out ?_; intro g4 c4 w4 _ hc4 hcl4 hg4 hb4; have HC4 := Aside0.mk hc4; have HCL := Aside0.mk hcl4; have HS4 := Aside0.mk (HS.out.less hb4); have HB4 := Aside0.mk (HB.out.trans (hb4.mono HB.out.size)); have HNE := Aside0.mk (show g4 ≠ w1.heap.size + 1 from by have := HS.out.lies.2; omega); clear hc4 hcl4 hg4 hb4)
          | (go_at_call 14; ((with_reducible refine (scn_feed w4 _ _ x0 (bs S) HS4.out g4 0 p.size c4 (bs p) (size_bs p) HC4.out HCL.out HNE.out (by rw [← size_bs]; have := HSP.out; omega) (by rw [← size_bs]; have := HSP.out; omega)).mono ?_)); rintro e w5 ⟨rfl, hs, hb⟩; rw [← bs_append] at hs; have HS5 := Aside0.mk hs; have HB5 := Aside0.mk (HB4.out.trans (hb.mono HLE.out)); clear hs hb)
          | (go_at_call 22; have CT := scn_taken _ _ _ _ _ HS5.out; rw [← size_bs] at CT; ((with_reducible refine CT.mono ?_)); rintro e w6 ⟨rfl, rfl⟩; clear CT)
          | (go_at_call 15; ((with_reducible refine (scn_found _ _ _ _ _ HS5.out).mono ?_)); rintro e w71 ⟨v, L, rfl, hr, hb, hso, hmem⟩; obtain ⟨kf, hkf⟩ := ref_found x0 (S ++ p) L HOK.out HLN.out (by have := HSP.out; omega) hso hmem; obtain ⟨kt, hkt⟩ := texts_same L (by have := len_L x0 (S ++ p) L HOK.out HLN.out (by have := HSP.out; omega) hso hmem; have := HLN.out; omega); have HKF := Aside0.mk (hkf kf (Nat.le_refl _)); have HKT := Aside0.mk (hkt kt (Nat.le_refl _)); have HSa := Aside0.mk (HS5.out.less hb); have HBa := Aside0.mk (HB5.out.trans (hb.mono HB5.out.size)); obtain ⟨Aa, ca, rfl, hca, hCa⟩ := Kd.R_reads hr; have HCa := Aside0.mk hCa; have HDa := Aside0.mk hca; clear hr hb hso hmem hkf hkt hCa hca)
          | (go_at_call 23; ((with_reducible refine (depotref14_Found.calls kf A0 c0 x0 (S ++ p) L _ (Kd.C_below HX0.out HBa.out) HC0.out HKF.out).mono ?_)); rintro e w72 ⟨v, rfl, hr, hb⟩; have HSb := Aside0.mk (HSa.out.less hb); have HBb := Aside0.mk (HBa.out.trans (hb.mono HBa.out.size)); have HCb := Aside0.mk (Kd.C_below HCa.out hb); obtain ⟨Ab, cb, rfl, hcb, hCb⟩ := Kd.R_reads hr; have HEb := Aside0.mk hCb; have HDb := Aside0.mk hcb; clear hr hb hCb hcb)
          | (go_at_call 20; ((with_reducible refine (depotlaw14_texts.calls kt Aa ca L Ab cb L true _ HCb.out HDa.out HEb.out HDb.out HKT.out).mono ?_)); rintro e w73 ⟨rfl, hd⟩; have HSc := Aside0.mk (HSb.out.less hd.below); have HBc := Aside0.mk (HBb.out.trans (hd.below.mono HBb.out.size)); clear hd))
        go_roundg g
        case measure => omega
        case rel => exact ⟨i + 1, S ++ p, by omega, rfl, by go_num, HT2, HSc, HBc⟩
      | zero =>
        obtain rfl : i = x1.length := by omega
        go_wp2_with (first
          | (go_at_call 15; ((with_reducible refine (scn_found _ _ _ _ _ HS.out).mono ?_)); rintro e w81 ⟨v, L, rfl, hr, hb, hso, hmem⟩; obtain ⟨kf, hkf⟩ := ref_found x0 (S) L HOK.out HLN.out (by have := HSZ.out; omega) hso hmem; obtain ⟨kt, hkt⟩ := texts_same L (by have := len_L x0 (S) L HOK.out HLN.out (by have := HSZ.out; omega) hso hmem; have := HLN.out; omega); have HKF := Aside0.mk (hkf kf (Nat.le_refl _)); have HKT := Aside0.mk (hkt kt (Nat.le_refl _)); have HSa := Aside0.mk (HS.out.less hb); have HBa := Aside0.mk (HB.out.trans (hb.mono HB.out.size)); obtain ⟨Aa, ca, rfl, hca, hCa⟩ := Kd.R_reads hr; have HCa := Aside0.mk hCa; have HDa := Aside0.mk hca; clear hr hb hso hmem hkf hkt hCa hca)
          | (go_at_call 23; ((with_reducible refine (depotref14_Found.calls kf A0 c0 x0 (S) L _ (Kd.C_below HX0.out HBa.out) HC0.out HKF.out).mono ?_)); rintro e w82 ⟨v, rfl, hr, hb⟩; have HSb := Aside0.mk (HSa.out.less hb); have HBb := Aside0.mk (HBa.out.trans (hb.mono HBa.out.size)); have HCb := Aside0.mk (Kd.C_below HCa.out hb); obtain ⟨Ab, cb, rfl, hcb, hCb⟩ := Kd.R_reads hr; have HEb := Aside0.mk hCb; have HDb := Aside0.mk hcb; clear hr hb hCb hcb)
          | (go_at_call 20; ((with_reducible refine (depotlaw14_texts.calls kt Aa ca L Ab cb L true _ HCb.out HDa.out HEb.out HDb.out HKT.out).mono ?_)); rintro e w83 ⟨rfl, hd⟩; have HSc := Aside0.mk (HSb.out.less hd.below); have HBc := Aside0.mk (HBb.out.trans (hd.below.mono HBb.out.size)); clear hd))
        go_ret
        exact ⟨rfl, HBc.out⟩
  · have CN := Aside0.mk (fun (W : World) (hb : Below w.heap.size w W) => new_bad W A0 c0 x0 (Kd.C_below HX0.out hb) HC0.out (fun h hh => by have := hz0 h hh; omega) (by omega) hw)
    obtain ⟨nw, hnw⟩ : ∃ a, wantedL x0 = a := ⟨_, rfl⟩
    rw [hnw] at hw CN CW
    have d1 : (nw == 0) = false := by simpa using hw
    have d2 : (nw = 0) = False := eq_false hw
    have d3 : (nw != 0) = true := by simpa using hw
    clear hnw hkw HKW hm hC0 hC1 hz0 hu0 hz1 hu1 hw
    go_enter Try.func7, Try.ntmps7
    go_wp2_with (first
      | (go_at_call 9; ((with_reducible refine CA.out.mono ?_)); rintro e w1 ⟨rfl, hb⟩; have HB1 := Aside0.mk hb; clear hb)
      | (go_at_call 13; ((with_reducible refine (CN.out w1 HB1.out).mono ?_)); rintro e w2 ⟨rfl, hb⟩; have HB2 := Aside0.mk (HB1.out.trans (hb.mono HB1.out.size)); clear hb)
      | (go_at_call 21; ((with_reducible refine (CW.out w2 HB2.out).mono ?_)); rintro e w3 ⟨rfl, hd⟩; have HB3 := Aside0.mk (HB2.out.trans (hd.below.mono HB2.out.size)); clear hd))
    go_ret
    exact ⟨rfl, HB3.out⟩
end Go.Proofs.Ytbllmpfdhcbkpaa.Scan
/- What came in, opened by its kind: a reading of a value ys data gives the Lean value of the print's kinds, with its sizes. For rows over slices and structs. -/
set_option linter.unusedVariables false
set_option linter.unusedSimpArgs false
namespace Go.Proofs.Ytbllmpfdhcbkpaa.Opens
open Go.RowKit Go.Deep Go.Proofs.YtbllmpfdhcbkpaaW.PrintWords

section
variable {α β : Type}
/-- A reading at type t gives a value of kind d: its cells (K), its weights (each no more than one of the datum's, or 0), its bulk, and what is good about its numbers. -/
structure Opens (P : Program) (t : TypeId) (d : Kd α) (Wt : α → List Nat) (Bk : α → Nat) (Gd : α → Prop) : Prop where
  sz : P.cellsOf t = d.sz
  out : ∀ {H : Type} {enc : TypeId × Value → H} {w : World} {base : Nat} {spare : Nat → Bool} {held : Bool} {fuel : Nat} {cs : List Value} {x : DataW H × List MemPlace},
    DataW.trod enc P w base spare held fuel t cs = some x → ∃ a, d.K w a cs ∧ (∀ n ∈ Wt a, n = 0 ∨ ∃ m ∈ x.1.weights P t, n ≤ m) ∧ Bk a ≤ Rows.uptoBulk x.1 ∧ Gd a

variable {P : Program} {t : TypeId}
theorem opens_string (ht : P.underlying t = some .string) (hs : P.cellsOf t = 1) : Opens P t Kd.string (fun s => [s.size]) (fun s => s.size + 1) (fun s => s.size ≤ maxLen) := by
  refine ⟨hs, fun {H enc w base spare held fuel cs x} h => ?_⟩
  obtain ⟨s, rfl, rfl, hw⟩ := DataW.trod_string ht h
  refine ⟨s, rfl, ?_, ?_, hw⟩
  · intro n hn
    rw [List.mem_singleton] at hn
    refine .inr ⟨s.data.toList.length, by rw [DataW.weights]; exact List.mem_singleton.2 rfl, ?_⟩
    rw [hn, Array.length_toList]
    exact Nat.le_refl _
  · rw [Rows.uptoBulk, Array.length_toList]
    exact Nat.le_refl _
theorem opens_bool (ht : P.underlying t = some .bool) (hs : P.cellsOf t = 1) : Opens P t Kd.bool (fun _ => []) (fun _ => 1) (fun _ => True) := by
  refine ⟨hs, fun {H enc w base spare held fuel cs x} h => ?_⟩
  obtain ⟨b, rfl, rfl⟩ := DataW.trod_bool ht h
  exact ⟨b, rfl, fun _ h => absurd h (by simp), by rw [Rows.uptoBulk] <;> simp, trivial⟩
theorem opens_int {k : IntKind} (ht : P.underlying t = some (.int k)) (hs : P.cellsOf t = 1) : Opens P t (Kd.int k) (fun _ => []) (fun _ => 1) (fun n => (Lit.int k n).wf = true) := by
  refine ⟨hs, fun {H enc w base spare held fuel cs x} h => ?_⟩
  obtain ⟨n, rfl, rfl, hw⟩ := DataW.trod_int ht h
  exact ⟨n, rfl, fun _ h => absurd h (by simp), by rw [Rows.uptoBulk] <;> simp, hw⟩

theorem list_of {Q : Nat → α → Prop} : ∀ (n : Nat), (∀ i, i < n → ∃ a, Q i a) → ∃ ys : List α, ys.length = n ∧ ∀ i a, ys[i]? = some a → Q i a
  | 0, _ => ⟨[], rfl, fun i a h => by simp at h⟩
  | n + 1, h => by
    obtain ⟨ys, hl, hq⟩ := list_of n (fun i hi => h i (by omega))
    obtain ⟨a, ha⟩ := h n (by omega)
    refine ⟨ys ++ [a], by simp [hl], fun i b hb => ?_⟩
    rcases Nat.lt_or_ge i n with hi | hi
    · rw [List.getElem?_append_left (by omega)] at hb
      exact hq i b hb
    · have : i < (ys ++ [a]).length := (List.getElem?_eq_some_iff.1 hb).1
      simp [hl] at this
      have e : i = n := by omega
      subst e
      rw [List.getElem?_append_right (by omega), hl, Nat.sub_self] at hb
      simp at hb
      subst hb
      exact ha
theorem sum_le_range (ys : List α) (Bk : α → Nat) (b : Nat → Nat) (h : ∀ i a, ys[i]? = some a → Bk a ≤ b i) : (ys.map Bk).sum ≤ ((List.range ys.length).map b).sum := by
  induction ys generalizing b with
  | nil => simp
  | cons a ys ih =>
    have h0 := h 0 a rfl
    have h1 := ih (fun i => b (i + 1)) (fun i a ha => h (i + 1) a (by simpa using ha))
    rw [List.length_cons, List.range_succ_eq_map, List.map_cons, List.sum_cons, List.map_cons, List.sum_cons, List.map_map]
    have e : (List.map (b ∘ Nat.succ) (List.range ys.length)) = List.map (fun i => b (i + 1)) (List.range ys.length) := rfl
    rw [e]
    omega
theorem bulkAll_sum {H : Type} (l : List (DataW H)) : Rows.uptoBulkAll l = (l.map Rows.uptoBulk).sum := by
  induction l with
  | nil => rfl
  | cons d l ih => rw [Rows.uptoBulkAll, ih, List.map_cons, List.sum_cons]
theorem weightsAll_mem {H : Type} {e : TypeId} : ∀ (l : List (DataW H)) (d : DataW H), d ∈ l → ∀ m ∈ d.weights P e, m ∈ DataW.weightsAll P e l
  | [], d, h => absurd h (by simp)
  | d' :: l, d, h => by
    intro m hm
    rw [DataW.weightsAll, List.mem_append]
    rcases List.mem_cons.1 h with rfl | h
    · exact .inl hm
    · exact .inr (weightsAll_mem l d h m hm)

theorem opens_slice {e : TypeId} {d : Kd α} {Wt : α → List Nat} {Bk : α → Nat} {Gd : α → Prop} (ht : P.underlying t = some (.slice e)) (hs : P.cellsOf t = 1) (he : Opens P e d Wt Bk Gd) :
    Opens P t (Kd.slice e d) (fun xs => (xs.length * P.bytesOf e) :: xs.flatMap Wt) (fun xs => (xs.map Bk).sum + 1) (fun xs => xs.length ≤ maxLen ∧ ∀ x ∈ xs, Gd x) := by
  refine ⟨hs, fun {H enc w base spare held fuel cs x} h => ?_⟩
  rcases open_slice ht h with ⟨rfl, rfl⟩ | ⟨a, len, cap, m, n, D, Pl, rfl, hb, hl, hm, hmm, rfl, hx⟩
  · exact ⟨[], ⟨none, 0, rfl, Nat.le_refl _, Kd.C_nil d w⟩, fun n hn => .inl (by simpa using hn), by rw [Rows.uptoBulk]; simp, by simp, by simp⟩
  · have hlm : len ≤ m := by rw [hmm]; split <;> omega
    have each : ∀ i, i < len → ∃ b : α, (∃ cs', w.cells? base (a.add (i * P.cellsOf e)) (P.cellsOf e) = some cs' ∧ d.K w b cs') ∧ (∀ q ∈ Wt b, q = 0 ∨ ∃ r ∈ (D i).weights P e, q ≤ r) ∧ Bk b ≤ Rows.uptoBulk (D i) ∧ Gd b := by
      intro i hi
      obtain ⟨cs', h1, h2⟩ := hx i (by omega)
      obtain ⟨b, hK, hw, hk, hg⟩ := he.out h2
      exact ⟨b, ⟨cs', h1, hK⟩, hw, hk, hg⟩
    obtain ⟨ys, hal, has⟩ := list_of len each
    subst hal
    refine ⟨ys, ⟨some a, cap, rfl, hl, rfl, by unfold maxLen at hm; omega, fun hp => ⟨a, rfl, fun j p hj => ?_⟩⟩, ?_, ?_, by omega, ?_⟩
    · obtain ⟨⟨cs', h1, hK⟩, _⟩ := has j p hj
      refine ⟨cs', d.K_len hK, hK, fun i u hu => ?_⟩
      have hc := World.cells?_some h1
      rw [he.sz] at hc
      obtain ⟨hc0, hc1, hc2⟩ := hc
      have hi : i < d.sz := by rw [← d.K_len hK]; exact (List.getElem?_eq_some_iff.1 hu).1
      have := hc2 i (by omega)
      rw [hu] at this
      rw [Go.Deep.add_add] at this
      exact this
    · intro q hq
      rw [List.mem_cons, List.mem_flatMap] at hq
      have hwt : (DataW.slice ((List.range ys.length).map D) ((List.range (m - ys.length)).map fun j => D (ys.length + j)) : DataW H).weights P t = (((List.range ys.length).map D).length + ((List.range (m - ys.length)).map fun j => D (ys.length + j)).length) * P.bytesOf e :: (DataW.weightsAll P e ((List.range ys.length).map D) ++ DataW.weightsAll P e ((List.range (m - ys.length)).map fun j => D (ys.length + j))) := by
        rw [DataW.weights, ht]
      show q = 0 ∨ ∃ r ∈ (DataW.slice ((List.range ys.length).map D) ((List.range (m - ys.length)).map fun j => D (ys.length + j)) : DataW H).weights P t, q ≤ r
      rw [hwt]
      rcases hq with rfl | ⟨b, hbm, hq⟩
      · refine .inr ⟨_, List.mem_cons_self, ?_⟩
        refine Nat.mul_le_mul_right _ ?_
        simp
      · obtain ⟨i, hi⟩ := List.getElem?_of_mem hbm
        have hil : i < ys.length := (List.getElem?_eq_some_iff.1 hi).1
        obtain ⟨_, hw, _⟩ := has i b hi
        rcases hw q hq with h0 | ⟨r, hr, hqr⟩
        · exact .inl h0
        · exact .inr ⟨r, List.mem_cons_of_mem _ (List.mem_append_left _ (weightsAll_mem _ (D i) (List.mem_map.2 ⟨i, List.mem_range.2 hil, rfl⟩) r hr)), hqr⟩
    · show _ ≤ Rows.uptoBulk (DataW.slice ((List.range ys.length).map D) ((List.range (m - ys.length)).map fun j => D (ys.length + j)) : DataW H)
      rw [Rows.uptoBulk, bulkAll_sum, List.map_map]
      have := sum_le_range ys Bk (fun i => Rows.uptoBulk (D i)) (fun i b hb => (has i b hb).2.2.1)
      have e2 : (List.map (Rows.uptoBulk ∘ D) (List.range ys.length)) = List.map (fun i => Rows.uptoBulk (D i)) (List.range ys.length) := rfl
      rw [e2]
      omega
    · intro b hbm
      obtain ⟨i, hi⟩ := List.getElem?_of_mem hbm
      exact (has i b hi).2.2.2

/-- Fields, from a place on. -/
structure OpensF (P : Program) (fs : List Field) (off : Nat) (d : Kd α) (Wt : α → List Nat) (Bk : α → Nat) (Gd : α → Prop) : Prop where
  out : ∀ {H : Type} {enc : TypeId × Value → H} {w : World} {base : Nat} {spare : Nat → Bool} {held : Bool} {fuel : Nat} {cs : List Value} {xs : List (DataW H × List MemPlace)},
    cs.length = off + d.sz → xs.length = fs.length → (∀ (i : Nat) (f : Field), fs[i]? = some f → DataW.trod enc P w base spare held fuel f.type ((cs.drop f.offset).take (P.cellsOf f.type)) = xs[i]?) →
    ∃ a, d.K w a (cs.drop off) ∧ (∀ n ∈ Wt a, n = 0 ∨ ∃ m ∈ DataW.weightsEach P (fs.map (·.type)) (xs.map (·.1)), n ≤ m) ∧ Bk a ≤ Rows.uptoBulkAll (xs.map (·.1)) ∧ Gd a
theorem opensF_one {f : Field} {off : Nat} {d : Kd α} {Wt : α → List Nat} {Bk : α → Nat} {Gd : α → Prop} (ho : f.offset = off) (he : Opens P f.type d Wt Bk Gd) : OpensF P [f] off d Wt Bk Gd := by
  refine ⟨fun {H enc w base spare held fuel cs xs} hc hl h => ?_⟩
  match xs, hl with
  | [x], _ =>
    have h0 := h 0 f rfl
    rw [ho, he.sz, List.take_of_length_le (by rw [List.length_drop]; omega)] at h0
    obtain ⟨a, hK, hw, hb, hg⟩ := he.out h0
    refine ⟨a, hK, fun n hn => ?_, ?_, hg⟩
    · rcases hw n hn with h | ⟨m, hm, hle⟩
      · exact .inl h
      · refine .inr ⟨m, ?_, hle⟩
        simp only [List.map_cons, List.map_nil, DataW.weightsEach, List.append_nil]
        exact hm
    · simp only [List.map_cons, List.map_nil, Rows.uptoBulkAll]
      omega
theorem opensF_cons {f : Field} {fs : List Field} {off : Nat} {d : Kd α} {d' : Kd β} {Wt : α → List Nat} {Bk : α → Nat} {Gd : α → Prop} {Wt' : β → List Nat} {Bk' : β → Nat} {Gd' : β → Prop}
    (ho : f.offset = off) (he : Opens P f.type d Wt Bk Gd) (hr : OpensF P fs (off + d.sz) d' Wt' Bk' Gd') :
    OpensF P (f :: fs) off (Kd.pair d d') (fun x => Wt x.1 ++ Wt' x.2) (fun x => Bk x.1 + Bk' x.2) (fun x => Gd x.1 ∧ Gd' x.2) := by
  refine ⟨fun {H enc w base spare held fuel cs xs} hc hl h => ?_⟩
  have hsz : (Kd.pair d d').sz = d.sz + d'.sz := rfl
  rw [hsz] at hc
  match xs, hl with
  | x :: xs, hl =>
    have h0 := h 0 f rfl
    rw [ho, he.sz] at h0
    obtain ⟨a, hK, hw, hb, hg⟩ := he.out h0
    obtain ⟨b, hK', hw', hb', hg'⟩ := hr.out (enc := enc) (w := w) (base := base) (spare := spare) (held := held) (fuel := fuel) (cs := cs) (xs := xs) (by omega) (by simpa using hl) (fun i f' hf => by simpa using h (i + 1) f' (by simpa using hf))
    refine ⟨(a, b), ⟨(cs.drop off).take d.sz, cs.drop (off + d.sz), ?_, hK, hK'⟩, fun n hn => ?_, ?_, hg, hg'⟩
    · rw [← List.drop_drop, List.take_append_drop]
    · simp only [List.map_cons, DataW.weightsEach, List.mem_append]
      rcases List.mem_append.1 hn with hn | hn
      · rcases hw n hn with h | ⟨m, hm, hle⟩
        · exact .inl h
        · exact .inr ⟨m, .inl hm, hle⟩
      · rcases hw' n hn with h | ⟨m, hm, hle⟩
        · exact .inl h
        · exact .inr ⟨m, .inr hm, hle⟩
    · simp only [List.map_cons, Rows.uptoBulkAll]
      omega
theorem opens_struct {fs : Array Field} {d : Kd α} {Wt : α → List Nat} {Bk : α → Nat} {Gd : α → Prop} (ht : P.underlying t = some (.struct fs)) (hs : P.cellsOf t = d.sz) (he : OpensF P fs.toList 0 d Wt Bk Gd) :
    Opens P t d Wt (fun a => Bk a + 1) Gd := by
  refine ⟨hs, fun {H enc w base spare held fuel cs x} h => ?_⟩
  obtain ⟨xs, n, rfl, rfl, hl, hl2, hx⟩ := DataW.trod_struct ht h
  obtain ⟨a, hK, hw, hb, hg⟩ := he.out (enc := enc) (w := w) (base := base) (spare := spare) (held := held) (fuel := n) (cs := cs) (xs := xs) (by omega) (by simpa using hl2) (fun i f hf => hx i f (by simpa using hf))
  refine ⟨a, by simpa using hK, fun n hn => ?_, ?_, hg⟩
  · rcases hw n hn with h | ⟨m, hm, hle⟩
    · exact .inl h
    · refine .inr ⟨m, ?_, hle⟩
      show m ∈ (DataW.agg (xs.map (·.1))).weights P t
      rw [DataW.weights, ht]
      exact hm
  · show _ ≤ Rows.uptoBulk (DataW.agg (xs.map (·.1)))
    rw [Rows.uptoBulk]
    omega
theorem opens_iso {d : Kd α} {Wt : α → List Nat} {Bk : α → Nat} {Gd : α → Prop} (f : β → α) (g : α → β) (hfg : ∀ a, f (g a) = a) (h : Opens P t d Wt Bk Gd) : Opens P t (Kd.iso d f) (fun b => Wt (f b)) (fun b => Bk (f b)) (fun b => Gd (f b)) := by
  refine ⟨h.sz, fun {H enc w base spare held fuel cs x} hx => ?_⟩
  obtain ⟨a, hK, hw, hb, hg⟩ := h.out hx
  refine ⟨g a, ?_, ?_, ?_, ?_⟩
  · show d.K w (f (g a)) cs
    rw [hfg]; exact hK
  · rw [hfg]; exact hw
  · rw [hfg]; exact hb
  · rw [hfg]; exact hg

/-- At an argument: its weights are within the reach. -/
theorem arg {H : Type} {enc : TypeId × Value → H} {w : World} {base : Nat} {spare : Nat → Bool} {held : Bool} {v : Value} {dd : DataW H} {ps : List MemPlace} {d : Kd α} {Wt : α → List Nat} {Bk : α → Nat} {Gd : α → Prop} (h : Opens P t d Wt Bk Gd)
    (hx : DataW.Trod enc P w base spare held t v dd ps) : ∃ a, d.K w a v.cells.toList ∧ (∀ n ∈ Wt a, n = 0 ∨ ∃ m ∈ dd.weights P t, n ≤ m) ∧ Bk a ≤ Rows.uptoBulk dd ∧ Gd a := by
  obtain ⟨fuel, hf⟩ := hx
  obtain ⟨a, h1, h2, h3, h4⟩ := h.out hf
  exact ⟨a, h1, h2, h3, h4⟩
/-- Each weight of an argument is within the reach of the form. -/
theorem reach {H : Type} {ts : List TypeId} {ds : List (DataW H)} (h : (DataW.weightsEach P ts ds).all (· ≤ reachBytes) = true) {j : Nat} {t : TypeId} {dd : DataW H} (ht : ts[j]? = some t) (hd : ds[j]? = some dd) {l : List Nat}
    (hw : ∀ n ∈ l, n = 0 ∨ ∃ m ∈ dd.weights P t, n ≤ m) : ∀ n ∈ l, n ≤ 140737488351232 := by
  intro n hn
  rcases hw n hn with h0 | ⟨m, hm, hle⟩
  · omega
  · have := DataW.weights_mem_each ht hd m hm
    rw [List.all_eq_true] at h
    have h1 := of_decide_eq_true (h m this)
    unfold reachBytes at h1
    omega
end
end Go.Proofs.Ytbllmpfdhcbkpaa.Opens
/- Small sums: what a bound on a sum says of each member. -/
namespace Go.Proofs.Ytbllmpfdhcbkpaa.Upto
theorem mem_le {α : Type} (f : α → Nat) : ∀ (l : List α), ∀ x ∈ l, f x ≤ (l.map f).sum
  | [], x, h => by cases h
  | y :: l, x, h => by
    rw [List.map_cons, List.sum_cons]
    rcases List.mem_cons.1 h with rfl | h
    · omega
    · have := mem_le f l x h
      omega
theorem len_le {α : Type} (f : α → Nat) : ∀ (l : List α), (∀ x ∈ l, 1 ≤ f x) → l.length ≤ (l.map f).sum
  | [], _ => Nat.zero_le _
  | y :: l, h => by
    rw [List.map_cons, List.sum_cons, List.length_cons]
    have h1 := h y List.mem_cons_self
    have := len_le f l (fun x hx => h x (List.mem_cons_of_mem _ hx))
    omega
end Go.Proofs.Ytbllmpfdhcbkpaa.Upto
