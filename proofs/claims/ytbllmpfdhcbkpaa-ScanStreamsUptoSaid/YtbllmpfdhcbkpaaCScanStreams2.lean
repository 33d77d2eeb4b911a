/- Texts of this claim, put together: Q49, Q50, Q51, Q52, ScanRefs, ScanObj, ExtScSw, ExtScPl, ExtScSt, Opens, Upto. -/
import Derived.Test.YtbllmpfdhcbkpaaCScanStreams1
import Derived.Test.YtbllmpfdhcbkpaaRows
import Derived.Test.YtbllmpfdhcbkpaaWWords
import Derived.Test.YtbllmpfdhcbkpaaWLast
import Derived.Deep.Slices
import Derived.ProofKit
import Derived.SizedLaws
/- By a program of this session's: a plain Lean function for a Go function, and its contract. -/
namespace Go.Proofs.Ytbllmpfdhcbkpaa.Q
open Go.RowKit Go.Proofs.YtbllmpfdhcbkpaaW.PrintWords Go.Proofs.YtbllmpfdhcbkpaaW.PrintLast Go.Proofs.YtbllmpfdhcbkpaaW.PrintMore
attribute [local go_sem] max2_int min2_int max_two min_two max_three min_three max_four min_four Go.Proofs.Ytbllmpfdhcbkpaa.Ord.str_leq Go.Proofs.Ytbllmpfdhcbkpaa.Ord.str_gtr Go.Proofs.Ytbllmpfdhcbkpaa.Ord.str_geq   -- for this text's walks alone
set_option linter.unusedVariables false
set_option linter.unusedSimpArgs false

/-! ### depotref14_Wanted: function 21 -/
def depotref14_Wanted.l0 : Nat → List ByteArray → Int → Option (Int)
  | 0, _, _ => none
  | k + 1, x0, x3 => if x3 < (x0.length : Int) then (if 0 ≤ x3 then ((depotref13_CheckHash.f k (rdOf ByteArray.empty x0 x3)).bind fun t238 => (if t238 = 0 then (depotref14_Wanted.l0 k x0 (wrap64 (x3 + 1))) else (some t238))) else (none)) else (some 0)
def depotref14_Wanted.f (k : Nat) (l0 : List ByteArray) : Option (Int) := depotref14_Wanted.l0 k l0 0
theorem depotref14_Wanted.mono_l : ∀ k, (∀ y0 y1, LeO (depotref14_Wanted.l0 k y0 y1) (depotref14_Wanted.l0 (k + 1) y0 y1))
  | 0 => fun _ _ r h => by simp [depotref14_Wanted.l0] at h
  | k + 1 => by
    have ih0 := depotref14_Wanted.mono_l k
    · intro y0 y1
      unfold depotref14_Wanted.l0
      repeat' first
      | (with_reducible exact ih0 _ _)
      | (with_reducible exact depotref13_CheckHash.mono _ _)
      | (with_reducible exact LeO.refl _)
      | (with_reducible exact LeO.none _)
      | (with_reducible refine LeO.ite ?_ ?_)
      | (with_reducible refine LeO.bind ?_ (fun _ => ?_))
      | exact ih0 _ _
      | exact depotref13_CheckHash.mono _ _
      | exact LeO.none _
      | refine LeO.ite ?_ ?_
      | refine LeO.bind ?_ (fun _ => ?_)
theorem depotref14_Wanted.mono : ∀ a0 k, LeO (depotref14_Wanted.f k a0) (depotref14_Wanted.f (k + 1) a0) := by
  intro a0 k
  have ih0 := depotref14_Wanted.mono_l k
  unfold depotref14_Wanted.f
  repeat' first
      | (with_reducible exact ih0 _ _)
      | (with_reducible exact depotref13_CheckHash.mono _ _)
      | (with_reducible exact LeO.refl _)
      | (with_reducible exact LeO.none _)
      | (with_reducible refine LeO.ite ?_ ?_)
      | (with_reducible refine LeO.bind ?_ (fun _ => ?_))
      | exact ih0 _ _
      | exact depotref13_CheckHash.mono _ _
      | exact LeO.none _
      | refine LeO.ite ?_ ?_
      | refine LeO.bind ?_ (fun _ => ?_)
set_option maxHeartbeats 8000000 in
set_option maxRecDepth 100000 in
theorem depotref14_Wanted.calls (k : Nat) (A0 : Option Addr) (c0 : Nat) (l0 : List ByteArray) (r : Int) (w : World) (hr0 : Kd.C Kd.string w A0 l0.length l0) (hc0 : l0.length ≤ c0) (h : depotref14_Wanted.f k l0 = some r) :
    Calls Try.prog 21 #[.slice A0 l0.length c0] w fun e w' => e = .returned (.int .i64 r) ∧ Drawn0 w w' := by
  have HR0 := Aside0.mk hr0
  have HC0 := Aside0.mk hc0
  clear hr0 hc0
  have H : (depotref14_Wanted.l0 k l0 0) = some r := h
  clear h
  have H' := Aside0.mk H
  clear H
  go_enter Try.func21, Try.ntmps21
  go_wp2
  go_loopg [3] k (fun kq v3 w' => ∃ (x3_1 : Int), v3 = .int .i64 x3_1 ∧ Aside0 (depotref14_Wanted.l0 kq l0 x3_1 = some r) ∧ Aside0 (kq ≤ k) ∧ Drawn0 w w')
  case atStart => exact ⟨(0), (by first | rfl | (simp; done) | (simp [*]; done)), H', ⟨Nat.le_refl _⟩, by repeat (first | exact Drawn0.refl _ | apply Drawn0.step)⟩
  case round =>
    clear H'
    obtain ⟨x3_1, rfl, HA, HK1, ⟨m1, rfl⟩⟩ := hrel
    cases gk with
    | zero => exact absurd HA.out (by simp [depotref14_Wanted.l0])
    | succ k1 =>
      have H := HA.out
      clear HA
      simp only [depotref14_Wanted.l0] at H
      by_cases c2 : x3_1 < (l0.length : Int)
      · rw [if_pos c2] at H
        have c2b0 : decide (x3_1 < (l0.length : Int)) = true := decide_eq_true c2
        clear c2
        by_cases c3 : 0 ≤ x3_1
        · rw [if_pos c3] at H
          have c3b0 : decide (0 ≤ x3_1) = true := decide_eq_true c3
          clear c3
          replace H := Option.bind_eq_some_iff.mp H
          obtain ⟨t238, A40, H⟩ := H
          replace H : (if t238 = 0 then (depotref14_Wanted.l0 k1 l0 (wrap64 (x3_1 + 1))) else (some t238)) = some r := H
          have A4 := Aside0.mk A40
          clear A40
          by_cases c5 : t238 = 0
          · rw [if_pos c5] at H
            have c5b0 : (t238 == 0) = true := beq_iff_eq.mpr c5
            have c5b1 : (t238 != 0) = false := bne_eq_false_iff_eq.mpr c5
            clear c5
            have H' := Aside0.mk H
            clear H
            have p237 : 0 ≤ (x3_1 : Int) := of_decide_eq_true (by first | (with_reducible assumption) | assumption)
            have q237 : x3_1 < (l0.length : Int) := of_decide_eq_true (by first | (with_reducible assumption) | assumption)
            obtain ⟨ad237, e237, hx237_0⟩ := Kd.at_string HR0.out x3_1 p237 q237
            cases e237
            replace p237 := eq_true p237
            replace q237 := eq_true q237
            go_wp2_with (first | ((with_reducible refine gate_callee (f := 33) rfl ?_); refine goesL_ (some 15) rfl rfl Try.func33 (by kernel_rfl) rfl #[.string (rdOf ByteArray.empty l0 x3_1)] rfl (by (try simp only [List.map_toArray, List.map_cons, List.map_nil]); first | done | rfl | (simp only [List.length_drop, List.length_take]; rfl)) ?_; (with_reducible refine (depotref13_CheckHash.calls k1 (rdOf ByteArray.empty l0 x3_1) t238 _ A4.out).mono ?_); rintro e w' ⟨rfl, ⟨nd, rfl⟩⟩; refine ⟨_, rfl, ?_⟩))
            go_roundg k1
            case measure => have := HK1.out; omega
            case rel => exact ⟨(wrap64 (x3_1 + 1)), (by first | rfl | (simp; done) | (simp [*]; done)), H', ⟨by have := HK1.out; omega⟩, by repeat (first | exact Drawn0.refl _ | apply Drawn0.step)⟩
          · rw [if_neg c5] at H
            have c5b0 : (t238 == 0) = false := beq_eq_false_iff_ne.mpr c5
            have c5b1 : (t238 != 0) = true := bne_iff_ne.mpr c5
            obtain rfl := Option.some.inj H
            have p237 : 0 ≤ (x3_1 : Int) := of_decide_eq_true (by first | (with_reducible assumption) | assumption)
            have q237 : x3_1 < (l0.length : Int) := of_decide_eq_true (by first | (with_reducible assumption) | assumption)
            obtain ⟨ad237, e237, hx237_0⟩ := Kd.at_string HR0.out x3_1 p237 q237
            cases e237
            replace p237 := eq_true p237
            replace q237 := eq_true q237
            go_wp2_with (first | ((with_reducible refine gate_callee (f := 33) rfl ?_); refine goesL_ (some 15) rfl rfl Try.func33 (by kernel_rfl) rfl #[.string (rdOf ByteArray.empty l0 x3_1)] rfl (by (try simp only [List.map_toArray, List.map_cons, List.map_nil]); first | done | rfl | (simp only [List.length_drop, List.length_take]; rfl)) ?_; (with_reducible refine (depotref13_CheckHash.calls k1 (rdOf ByteArray.empty l0 x3_1) t238 _ A4.out).mono ?_); rintro e w' ⟨rfl, ⟨nd, rfl⟩⟩; refine ⟨_, rfl, ?_⟩))
            go_ret
            exact ⟨by first | rfl | (simp; done) | (simp [*]; done), by repeat (first | exact Drawn0.refl _ | apply Drawn0.step)⟩
        · rw [if_neg c3] at H
          exact absurd H (by simp)
      · rw [if_neg c2] at H
        have c2b0 : decide (x3_1 < (l0.length : Int)) = false := decide_eq_false c2
        clear c2
        obtain rfl := Option.some.inj H
        go_wp2
        go_ret
        exact ⟨by first | rfl | (simp; done) | (simp [*]; done), by repeat (first | exact Drawn0.refl _ | apply Drawn0.step)⟩

end Go.Proofs.Ytbllmpfdhcbkpaa.Q
/- By a program of this session's: a plain Lean function for a Go function, and its contract. -/
namespace Go.Proofs.Ytbllmpfdhcbkpaa.Q
open Go.RowKit Go.Proofs.YtbllmpfdhcbkpaaW.PrintWords Go.Proofs.YtbllmpfdhcbkpaaW.PrintLast Go.Proofs.YtbllmpfdhcbkpaaW.PrintMore
attribute [local go_sem] max2_int min2_int max_two min_two max_three min_three max_four min_four Go.Proofs.Ytbllmpfdhcbkpaa.Ord.str_leq Go.Proofs.Ytbllmpfdhcbkpaa.Ord.str_gtr Go.Proofs.Ytbllmpfdhcbkpaa.Ord.str_geq   -- for this text's walks alone
set_option linter.unusedVariables false
set_option linter.unusedSimpArgs false

/-! ### depotref14_At: function 24 -/
def depotref14_At.f (a0 : ByteArray) (a1 : ByteArray) (a2 : Int) : Option (Bool) := if (wrap64 (a2 + (a1.size : Int))) ≤ (a0.size : Int) then (if 0 ≤ a2 then (if a2 ≤ (wrap64 (a2 + (a1.size : Int))) then (some ((a0.extract (a2 : Int).toNat ((wrap64 (a2 + (a1.size : Int))) : Int).toNat).toList == a1.toList)) else (none)) else (none)) else (some false)
set_option maxHeartbeats 8000000 in
set_option maxRecDepth 100000 in
theorem depotref14_At.calls (a0 : ByteArray) (a1 : ByteArray) (a2 : Int) (r : Bool) (w : World) (h : depotref14_At.f a0 a1 a2 = some r) :
    Calls Try.prog 24 #[.string a0, .string a1, .int .i64 a2] w fun e w' => e = .returned (.bool r) ∧ Drawn0 w w' := by
  have H : (if (wrap64 (a2 + (a1.size : Int))) ≤ (a0.size : Int) then (if 0 ≤ a2 then (if a2 ≤ (wrap64 (a2 + (a1.size : Int))) then (some ((a0.extract (a2 : Int).toNat ((wrap64 (a2 + (a1.size : Int))) : Int).toNat).toList == a1.toList)) else (none)) else (none)) else (some false)) = some r := h
  clear h
  by_cases c4 : (wrap64 (a2 + (a1.size : Int))) ≤ (a0.size : Int)
  · rw [if_pos c4] at H
    have c4b0 : decide ((wrap64 (a2 + (a1.size : Int))) ≤ (a0.size : Int)) = true := decide_eq_true c4
    clear c4
    by_cases c5 : 0 ≤ a2
    · rw [if_pos c5] at H
      have c5b0 := eq_true c5
      have c5b1 : decide (0 ≤ a2) = true := decide_eq_true c5
      clear c5
      by_cases c6 : a2 ≤ (wrap64 (a2 + (a1.size : Int)))
      · rw [if_pos c6] at H
        have c6b0 := eq_true c6
        have c6b1 : decide (a2 ≤ (wrap64 (a2 + (a1.size : Int)))) = true := decide_eq_true c6
        have c7b0 := eq_true (of_decide_eq_true (by first | (with_reducible assumption) | assumption) : (wrap64 (a2 + (a1.size : Int))) ≤ (a0.size : Int))
        obtain rfl := Option.some.inj H
        go_enter Try.func24, Try.ntmps24
        go_wp2
        go_ret
        exact ⟨by first | rfl | (simp; done) | (simp [*]; done), by repeat (first | exact Drawn0.refl _ | apply Drawn0.step)⟩
      · rw [if_neg c6] at H
        exact absurd H (by simp)
    · rw [if_neg c5] at H
      exact absurd H (by simp)
  · rw [if_neg c4] at H
    have c4b0 : decide ((wrap64 (a2 + (a1.size : Int))) ≤ (a0.size : Int)) = false := decide_eq_false c4
    clear c4
    obtain rfl := Option.some.inj H
    go_enter Try.func24, Try.ntmps24
    go_wp2
    go_ret
    exact ⟨by first | rfl | (simp; done) | (simp [*]; done), by repeat (first | exact Drawn0.refl _ | apply Drawn0.step)⟩

end Go.Proofs.Ytbllmpfdhcbkpaa.Q
/- By a program of this session's: a plain Lean function for a Go function, and its contract. -/
namespace Go.Proofs.Ytbllmpfdhcbkpaa.Q
open Go.RowKit Go.Proofs.YtbllmpfdhcbkpaaW.PrintWords Go.Proofs.YtbllmpfdhcbkpaaW.PrintLast Go.Proofs.YtbllmpfdhcbkpaaW.PrintMore
attribute [local go_sem] max2_int min2_int max_two min_two max_three min_three max_four min_four Go.Proofs.Ytbllmpfdhcbkpaa.Ord.str_leq Go.Proofs.Ytbllmpfdhcbkpaa.Ord.str_gtr Go.Proofs.Ytbllmpfdhcbkpaa.Ord.str_geq   -- for this text's walks alone
set_option linter.unusedVariables false
set_option linter.unusedSimpArgs false

/-! ### depotref14_Rewrite: function 11 -/
def depotref14_Rewrite.l0 : Nat → ByteArray → ByteArray → ByteArray → List Int → List Int → Int → Option (ByteArray × List Int × Int)
  | 0, _, _, _, _, _, _ => none
  | k + 1, x0, x1, x2, x10, x11, x12 => if x12 < (x0.size : Int) then ((depotref14_At.f x0 x1 x12).bind fun t243 => (if t243 = true then (if x10.length + x2.size < 140737488355328 then (if x11.length < 17592186044416 then (depotref14_Rewrite.l0 k x0 x1 x2 (x10 ++ bytesOf x2) (x11 ++ [x12]) (wrap64 (x12 + 32))) else (none)) else (none)) else (if 0 ≤ x12 then (if x10.length < 140737488355328 then (depotref14_Rewrite.l0 k x0 x1 x2 (x10 ++ [bt x0 x12]) x11 (wrap64 (x12 + 1))) else (none)) else (none)))) else (some (strOfNums x10, x11, 0))
def depotref14_Rewrite.f (k : Nat) (a0 : ByteArray) (a1 : ByteArray) (a2 : ByteArray) : Option (ByteArray × List Int × Int) := (depotref14_Wanted.f k (([a1, a2] : List ByteArray))).bind fun t242 => (if t242 = 0 then (depotref14_Rewrite.l0 k a0 a1 a2 ([] : List Int) ([] : List Int) 0) else (some ((⟨#[]⟩ : ByteArray), ([] : List Int), t242)))
theorem depotref14_Rewrite.mono_l : ∀ k, (∀ y0 y1 y2 y3 y4 y5, LeO (depotref14_Rewrite.l0 k y0 y1 y2 y3 y4 y5) (depotref14_Rewrite.l0 (k + 1) y0 y1 y2 y3 y4 y5))
  | 0 => fun _ _ _ _ _ _ r h => by simp [depotref14_Rewrite.l0] at h
  | k + 1 => by
    have ih0 := depotref14_Rewrite.mono_l k
    · intro y0 y1 y2 y3 y4 y5
      unfold depotref14_Rewrite.l0
      repeat' first
      | (with_reducible exact ih0 _ _ _ _ _ _)
      | (with_reducible exact depotref14_Wanted.mono _ _)
      | (with_reducible exact LeO.refl _)
      | (with_reducible exact LeO.none _)
      | (with_reducible refine LeO.ite ?_ ?_)
      | (with_reducible refine LeO.bind ?_ (fun _ => ?_))
      | exact ih0 _ _ _ _ _ _
      | exact depotref14_Wanted.mono _ _
      | exact LeO.none _
      | refine LeO.ite ?_ ?_
      | refine LeO.bind ?_ (fun _ => ?_)
theorem depotref14_Rewrite.mono : ∀ a0 a1 a2 k, LeO (depotref14_Rewrite.f k a0 a1 a2) (depotref14_Rewrite.f (k + 1) a0 a1 a2) := by
  intro a0 a1 a2 k
  have ih0 := depotref14_Rewrite.mono_l k
  unfold depotref14_Rewrite.f
  repeat' first
      | (with_reducible exact ih0 _ _ _ _ _ _)
      | (with_reducible exact depotref14_Wanted.mono _ _)
      | (with_reducible exact LeO.refl _)
      | (with_reducible exact LeO.none _)
      | (with_reducible refine LeO.ite ?_ ?_)
      | (with_reducible refine LeO.bind ?_ (fun _ => ?_))
      | exact ih0 _ _ _ _ _ _
      | exact depotref14_Wanted.mono _ _
      | exact LeO.none _
      | refine LeO.ite ?_ ?_
      | refine LeO.bind ?_ (fun _ => ?_)
set_option maxHeartbeats 8000000 in
set_option maxRecDepth 100000 in
theorem depotref14_Rewrite.calls (k : Nat) (a0 : ByteArray) (a1 : ByteArray) (a2 : ByteArray) (r1 : ByteArray) (r2 : List Int) (r3 : Int) (w : World) (h : depotref14_Rewrite.f k a0 a1 a2 = some (r1, r2, r3)) :
    Calls Try.prog 11 #[.string a0, .string a1, .string a2] w fun e w' => ∃ v1_ : Value, e = .returned (.tuple #[.string r1, v1_, .int .i64 r3]) ∧ Kd.R (Kd.int .i64) 3 w' w.heap.size (fun _ => True) v1_ r2 ∧ Below w.heap.size w w' := by
  have HB := Aside0.mk (Below.refl w.heap.size w)
  have H : ((depotref14_Wanted.f k (([a1, a2] : List ByteArray))).bind fun t242 => (if t242 = 0 then (depotref14_Rewrite.l0 k a0 a1 a2 ([] : List Int) ([] : List Int) 0) else (some ((⟨#[]⟩ : ByteArray), ([] : List Int), t242)))) = some (r1, r2, r3) := h
  clear h
  obtain ⟨y239, hy239⟩ : ∃ y_ : List ByteArray, y_ = (([a1, a2] : List ByteArray)) := ⟨_, rfl⟩
  replace H : ((depotref14_Wanted.f k y239).bind fun t242 => (if t242 = 0 then (depotref14_Rewrite.l0 k a0 a1 a2 ([] : List Int) ([] : List Int) 0) else (some ((⟨#[]⟩ : ByteArray), ([] : List Int), t242)))) = some (r1, r2, r3) := by first | (rw [hy239]; with_reducible exact H) | (have H2_ := (Option.bind_some _ _).symm.trans H; rw [hy239]; with_reducible exact H2_) | (have H2_ := (Option.bind_some _ _).symm.trans H; with_reducible exact H2_) | with_reducible exact H | (rw [hy239]; exact H) | exact H
  have Ny239 := Aside0.mk hy239
  clear hy239
  replace H := Option.bind_eq_some_iff.mp H
  obtain ⟨t242, A40, H⟩ := H
  replace H : (if t242 = 0 then (depotref14_Rewrite.l0 k a0 a1 a2 ([] : List Int) ([] : List Int) 0) else (some ((⟨#[]⟩ : ByteArray), ([] : List Int), t242))) = some (r1, r2, r3) := H
  have A4 := Aside0.mk A40
  clear A40
  by_cases c5 : t242 = 0
  · rw [if_pos c5] at H
    have c5b0 : (t242 == 0) = true := beq_iff_eq.mpr c5
    have c5b1 : (t242 != 0) = false := bne_eq_false_iff_eq.mpr c5
    clear c5
    have H' := Aside0.mk H
    clear H
    go_enter Try.func11, Try.ntmps11
    go_wp2_with (first | ((with_reducible refine gate_dst (N := 15) rfl ?_); refine Kd.R_lit Kd.string _ 9 ?hg (N := 15) ?hd (xs := ([a1, a2] : List ByteArray)) (inner := [.string a1, .string a2]) (ok := fun _ => True) (okp := fun _ => True) ?hr ?hp (fun _ hk => hk) trivial (Below.refl _ _) (Nat.le_refl _) (by simp) ?_; (case hd => rfl); (case hg => rfl); (case hr => first | (go_simp; done) | (go_simp; rfl)); (case hp => exact (Reps.one (show Kd.M Kd.string _ _ _ a1 [.string a1] from rfl) (Reps.one (show Kd.M Kd.string _ _ _ a2 [.string a2] from rfl) (Reps.none _ _)))); intro v240 w6 ho7 hb hg_ hnew_; clear hg_ hnew_; (first | rw [← Ny239.out] at ho7 | (simp only [Int.reduceToNat] at ho7; rw [← Ny239.out] at ho7)); have n0_ := Aside0.mk (Kd.R_lower ho7 (below_size (by repeat (first | (with_reducible first | exact HB.out | apply below_alloc | apply pw_below_drewN | apply below_drew1) | exact HB.out)))); have n1_ := Aside0.mk (below_step (by repeat (first | (with_reducible first | exact HB.out | apply below_alloc | apply pw_below_drewN | apply below_drew1) | exact HB.out)) hb); clear HB; have HO241 := n0_; have HB := n1_; clear n0_ n1_; clear hb ho7; obtain ⟨Ao8, co8, eo8⟩ := Kd.R_slice HO241.out; subst eo8) | ((with_reducible refine gate_callee (f := 21) rfl ?_); refine goesL_ (some 16) rfl rfl Try.func21 (by kernel_rfl) rfl #[.slice Ao8 y239.length co8] rfl (by (try simp only [List.map_toArray, List.map_cons, List.map_nil]); first | done | rfl | (simp only [List.length_drop, List.length_take]; rfl)) ?_; (with_reducible refine (depotref14_Wanted.calls k _ _ y239 t242 _ ?side1 ?side2 A4.out).mono ?_); (case side1 => repeat (first | exact (Kd.R_reads' HO241.out).2.2 | (with_reducible refine Kd.C_alloc ?_ _) | (with_reducible refine Kd.C_drewN ?_ _) | (with_reducible refine Kd.C_drew ?_))); (case side2 => exact (Kd.R_reads' HO241.out).2.1); rintro e w' ⟨rfl, ⟨nd, rfl⟩⟩; refine ⟨_, rfl, ?_⟩))
    go_loopg [10, 11, 12] k (fun kq v10 v11 v12 w' => ∃ (x10_1 : List Int) (x11_1 : List Int) (x12_1 : Int), v12 = .int .i64 x12_1 ∧ Aside0 (depotref14_Rewrite.l0 kq a0 a1 a2 x10_1 x11_1 x12_1 = some (r1, r2, r3)) ∧ Aside0 (kq ≤ k) ∧ Aside0 (Kd.R (Kd.int .u8) 5 w' w.heap.size (fun _ => True) v10 x10_1) ∧ Aside0 (Kd.R (Kd.int .i64) 3 w' w.heap.size (fun _ => True) v11 x11_1) ∧ Aside0 (Below w.heap.size w w'))
    case atStart => exact ⟨(([] : List Int)), (([] : List Int)), (0), (by first | rfl | (simp; done) | (simp [*]; done)), H', ⟨Nat.le_refl _⟩, ⟨by first | exact Kd.R_nil _ _ _ _ _ | exact Kd.N_nil _ _ _ _ _ | exact Kd.V_nil _ _ _ _ _ | exact Kd.Q_nil _ _ _ _ _ | exact Kd.S_nil _ _ _ _ _⟩, ⟨by first | exact Kd.R_nil _ _ _ _ _ | exact Kd.N_nil _ _ _ _ _ | exact Kd.V_nil _ _ _ _ _ | exact Kd.Q_nil _ _ _ _ _ | exact Kd.S_nil _ _ _ _ _⟩, ⟨by repeat (first | (with_reducible first | exact HB.out | apply below_alloc | apply pw_below_drewN | apply below_drew1) | exact HB.out)⟩⟩
    case round =>
      clear H'
      try clear c1
      try clear c2
      try clear p2
      try clear c5
      try clear c5b0
      try clear c5b1
      obtain ⟨x10_1, x11_1, x12_1, rfl, HA, HK1, HO_10, HO_11, HB⟩ := hrel
      cases gk with
      | zero => exact absurd HA.out (by simp [depotref14_Rewrite.l0])
      | succ k1 =>
        have H := HA.out
        clear HA
        simp only [depotref14_Rewrite.l0] at H
        by_cases c9 : x12_1 < (a0.size : Int)
        · rw [if_pos c9] at H
          have c9b0 : decide (x12_1 < (a0.size : Int)) = true := decide_eq_true c9
          clear c9
          replace H := Option.bind_eq_some_iff.mp H
          obtain ⟨t243, A100, H⟩ := H
          replace H : (if t243 = true then (if x10_1.length + a2.size < 140737488355328 then (if x11_1.length < 17592186044416 then (depotref14_Rewrite.l0 k1 a0 a1 a2 (x10_1 ++ bytesOf a2) (x11_1 ++ [x12_1]) (wrap64 (x12_1 + 32))) else (none)) else (none)) else (if 0 ≤ x12_1 then (if x10_1.length < 140737488355328 then (depotref14_Rewrite.l0 k1 a0 a1 a2 (x10_1 ++ [bt a0 x12_1]) x11_1 (wrap64 (x12_1 + 1))) else (none)) else (none))) = some (r1, r2, r3) := H
          have A10 := Aside0.mk A100
          clear A100
          by_cases c11 : t243 = true
          · subst c11
            have H1 : (if x10_1.length + a2.size < 140737488355328 then (if x11_1.length < 17592186044416 then (depotref14_Rewrite.l0 k1 a0 a1 a2 (x10_1 ++ bytesOf a2) (x11_1 ++ [x12_1]) (wrap64 (x12_1 + 32))) else (none)) else (none)) = some (r1, r2, r3) := by rw [if_pos rfl] at H; exact H
            clear H
            have H := H1
            clear H1
            by_cases c12 : x10_1.length + a2.size < 140737488355328
            · rw [if_pos c12] at H
              have LMc12 := Aside0.mk c12
              clear c12
              obtain ⟨y244, hy244⟩ : ∃ y_ : List Int, y_ = (x10_1 ++ bytesOf a2) := ⟨_, rfl⟩
              replace H : (if x11_1.length < 17592186044416 then (depotref14_Rewrite.l0 k1 a0 a1 a2 y244 (x11_1 ++ [x12_1]) (wrap64 (x12_1 + 32))) else (none)) = some (r1, r2, r3) := by first | (rw [hy244]; with_reducible exact H) | (have H2_ := (Option.bind_some _ _).symm.trans H; rw [hy244]; with_reducible exact H2_) | (have H2_ := (Option.bind_some _ _).symm.trans H; with_reducible exact H2_) | with_reducible exact H | (rw [hy244]; exact H) | exact H
              have Ny244 := Aside0.mk hy244
              clear hy244
              by_cases c13 : x11_1.length < 17592186044416
              · rw [if_pos c13] at H
                have LMc13 := Aside0.mk c13
                clear c13
                obtain ⟨y247, hy247⟩ : ∃ y_ : List Int, y_ = (x11_1 ++ [x12_1]) := ⟨_, rfl⟩
                replace H : (depotref14_Rewrite.l0 k1 a0 a1 a2 y244 y247 (wrap64 (x12_1 + 32))) = some (r1, r2, r3) := by first | (rw [hy247]; with_reducible exact H) | (have H2_ := (Option.bind_some _ _).symm.trans H; rw [hy247]; with_reducible exact H2_) | (have H2_ := (Option.bind_some _ _).symm.trans H; with_reducible exact H2_) | with_reducible exact H | (rw [hy247]; exact H) | exact H
                have Ny247 := Aside0.mk hy247
                clear hy247
                have H' := Aside0.mk H
                clear H
                go_wp2_with (first | ((with_reducible refine gate_callee (f := 24) rfl ?_); refine goesL_ (some 27) rfl rfl Try.func24 (by kernel_rfl) rfl #[.string a0, .string a1, .int .i64 x12_1] rfl (by (try simp only [List.map_toArray, List.map_cons, List.map_nil]); first | done | rfl | (simp only [List.length_drop, List.length_take]; rfl)) ?_; (with_reducible refine (depotref14_At.calls a0 a1 x12_1 true _ A10.out).mono ?_); rintro e w' ⟨rfl, ⟨nd, rfl⟩⟩; refine ⟨_, rfl, ?_⟩) | (at_builtin; refine print_append_str (w0 := w) w.heap.size rfl (.tmp 28) _ 36 9 5 rfl Try.underlying36 Try.underlying9 info5 u10 x10_1 a2 rfl rfl ?aO ?aB ?aS ?aL ?_; (case aB => exact (by repeat (first | (with_reducible first | exact HB.out | apply below_alloc | apply pw_below_drewN | apply below_drew1) | exact HB.out))); (case aO => exact (Kd.own_of_R (by (with_reducible repeat (first | apply Kd.R_alloc | apply Kd.R_drewN | apply Kd.R_drew)); exact HO_10.out))); (case aS => exact (below_size (by repeat (first | (with_reducible first | exact HB.out | apply below_alloc | apply pw_below_drewN | apply below_drew1) | exact HB.out)))); (case aL => have := LMc12.out; omega); intro v245 w14 ho0 hb hg; have ho := Kd.R_of_own (h1 := fun _ => rfl) (ok := fun _ => True) ho0 (fun _ _ => trivial); clear ho0; have hat := True.intro; rw [← Ny244.out] at ho; change Kd.R (Kd.int .u8) 5 w14 w.heap.size (fun _ => True) v245 y244 at ho; have n0_ := Aside0.mk (Kd.R_over' (by (with_reducible repeat (first | apply Kd.R_alloc | apply Kd.R_drewN | apply Kd.R_drew)); exact HO_11.out) (Kd.R_typed (by (with_reducible repeat (first | apply Kd.R_alloc | apply Kd.R_drewN | apply Kd.R_drew)); exact HO_10.out)) (by decide) hg); have n1_ := Aside0.mk (hb); have n2_ := Aside0.mk (ho); clear HO_11; clear HB; clear HO_10; have HO_11 := n0_; have HB := n1_; have HO246 := n2_; clear n0_ n1_ n2_; clear ho hb hg hat) | ((with_reducible refine gate_builtin (b := .append) (xs := #[.tmp 31, .tmp 33]) rfl ?_); at_builtin; refine Kd.R_append (Kd.int .i64) (w0 := w) w.heap.size rfl (.tmp 31) (.tmp 33) 23 3 (.int .i64 0) 8 rfl Try.underlying23 info3 rfl (by decide) (by omega) u11 x11_1 x12_1 [.int .i64 x12_1] (fun _ => True) (fun _ => False) rfl rfl ?aP (fun _ hk => hk.elim) ?aF ?aO ?aB ?aS ?aL ?_; (case aP => exact rfl); (case aB => exact (by repeat (first | (with_reducible first | exact HB.out | apply below_alloc | apply pw_below_drewN | apply below_drew1) | exact HB.out))); (case aF => exact (fun _ _ => trivial)); (case aO => exact (by (with_reducible repeat (first | apply Kd.R_alloc | apply Kd.R_drewN | apply Kd.R_drew)); exact HO_11.out)); (case aS => exact (below_size (by repeat (first | (with_reducible first | exact HB.out | apply below_alloc | apply pw_below_drewN | apply below_drew1) | exact HB.out)))); (case aL => have := LMc13.out; omega); intro v248 w15 ho hb hg hat; rw [← Ny247.out] at ho; have n0_ := Aside0.mk (Kd.R_over' (by (with_reducible repeat (first | apply Kd.R_alloc | apply Kd.R_drewN | apply Kd.R_drew)); exact HO246.out) (Kd.R_typed (by (with_reducible repeat (first | apply Kd.R_alloc | apply Kd.R_drewN | apply Kd.R_drew)); exact HO_11.out)) (by decide) hg); have n1_ := Aside0.mk (hb); have n2_ := Aside0.mk (ho); clear HO246; clear HB; clear HO_11; have HO246 := n0_; have HB := n1_; have HO249 := n2_; clear n0_ n1_ n2_; clear ho hb hg hat))
                go_roundg k1
                case measure => have := HK1.out; omega
                case rel => exact ⟨(y244), (y247), (wrap64 (x12_1 + 32)), (by first | rfl | (simp; done) | (simp [*]; done)), H', ⟨by have := HK1.out; omega⟩, ⟨by (with_reducible repeat (first | apply Kd.R_alloc | apply Kd.R_drewN | apply Kd.R_drew)); exact HO246.out⟩, ⟨by (with_reducible repeat (first | apply Kd.R_alloc | apply Kd.R_drewN | apply Kd.R_drew)); exact HO249.out⟩, ⟨by repeat (first | (with_reducible first | exact HB.out | apply below_alloc | apply pw_below_drewN | apply below_drew1) | exact HB.out)⟩⟩
              · rw [if_neg c13] at H
                exact absurd H (by simp)
            · rw [if_neg c12] at H
              exact absurd H (by simp)
          · replace c11 := Bool.eq_false_iff.mpr c11
            subst c11
            have H1 : (if 0 ≤ x12_1 then (if x10_1.length < 140737488355328 then (depotref14_Rewrite.l0 k1 a0 a1 a2 (x10_1 ++ [bt a0 x12_1]) x11_1 (wrap64 (x12_1 + 1))) else (none)) else (none)) = some (r1, r2, r3) := by rw [if_neg (show ¬ (false = true) by decide)] at H; exact H
            clear H
            have H := H1
            clear H1
            by_cases c16 : 0 ≤ x12_1
            · rw [if_pos c16] at H
              have c16b0 : decide (0 ≤ x12_1) = true := decide_eq_true c16
              clear c16
              by_cases c18 : x10_1.length < 140737488355328
              · rw [if_pos c18] at H
                have LMc18 := Aside0.mk c18
                clear c18
                obtain ⟨y250, hy250⟩ : ∃ y_ : List Int, y_ = (x10_1 ++ [bt a0 x12_1]) := ⟨_, rfl⟩
                replace H : (depotref14_Rewrite.l0 k1 a0 a1 a2 y250 x11_1 (wrap64 (x12_1 + 1))) = some (r1, r2, r3) := by first | (rw [hy250]; with_reducible exact H) | (have H2_ := (Option.bind_some _ _).symm.trans H; rw [hy250]; with_reducible exact H2_) | (have H2_ := (Option.bind_some _ _).symm.trans H; with_reducible exact H2_) | with_reducible exact H | (rw [hy250]; exact H) | exact H
                have Ny250 := Aside0.mk hy250
                clear hy250
                have H' := Aside0.mk H
                clear H
                go_wp2_with (first | ((with_reducible refine gate_callee (f := 24) rfl ?_); refine goesL_ (some 27) rfl rfl Try.func24 (by kernel_rfl) rfl #[.string a0, .string a1, .int .i64 x12_1] rfl (by (try simp only [List.map_toArray, List.map_cons, List.map_nil]); first | done | rfl | (simp only [List.length_drop, List.length_take]; rfl)) ?_; (with_reducible refine (depotref14_At.calls a0 a1 x12_1 false _ A10.out).mono ?_); rintro e w' ⟨rfl, ⟨nd, rfl⟩⟩; refine ⟨_, rfl, ?_⟩; have p17 : 0 ≤ (x12_1 : Int) := of_decide_eq_true (by first | (with_reducible assumption) | assumption); have q17 : x12_1 < (a0.size : Int) := of_decide_eq_true (by first | (with_reducible assumption) | assumption); have hx17 := bt_at a0 x12_1; replace p17 := eq_true p17; replace q17 := eq_true q17) | ((with_reducible refine gate_builtin (b := .append) (xs := #[.tmp 37, .tmp 41]) rfl ?_); at_builtin; refine Kd.R_append (Kd.int .u8) (w0 := w) w.heap.size rfl (.tmp 37) (.tmp 41) 36 5 (.int .u8 0) 1 rfl Try.underlying36 info5 rfl (by decide) (by omega) u10 x10_1 (bt a0 x12_1) [.int .u8 (bt a0 x12_1)] (fun _ => True) (fun _ => False) rfl rfl ?aP (fun _ hk => hk.elim) ?aF ?aO ?aB ?aS ?aL ?_; (case aP => exact rfl); (case aB => exact (by repeat (first | (with_reducible first | exact HB.out | apply below_alloc | apply pw_below_drewN | apply below_drew1) | exact HB.out))); (case aF => exact (fun _ _ => trivial)); (case aO => exact (by (with_reducible repeat (first | apply Kd.R_alloc | apply Kd.R_drewN | apply Kd.R_drew)); exact HO_10.out)); (case aS => exact (below_size (by repeat (first | (with_reducible first | exact HB.out | apply below_alloc | apply pw_below_drewN | apply below_drew1) | exact HB.out)))); (case aL => have := LMc18.out; omega); intro v251 w19 ho hb hg hat; rw [← Ny250.out] at ho; have n0_ := Aside0.mk (Kd.R_over' (by (with_reducible repeat (first | apply Kd.R_alloc | apply Kd.R_drewN | apply Kd.R_drew)); exact HO_11.out) (Kd.R_typed (by (with_reducible repeat (first | apply Kd.R_alloc | apply Kd.R_drewN | apply Kd.R_drew)); exact HO_10.out)) (by decide) hg); have n1_ := Aside0.mk (hb); have n2_ := Aside0.mk (ho); clear HO_11; clear HB; clear HO_10; have HO_11 := n0_; have HB := n1_; have HO252 := n2_; clear n0_ n1_ n2_; clear ho hb hg hat))
                go_roundg k1
                case measure => have := HK1.out; omega
                case rel => exact ⟨(y250), (x11_1), (wrap64 (x12_1 + 1)), (by first | rfl | (simp; done) | (simp [*]; done)), H', ⟨by have := HK1.out; omega⟩, ⟨by (with_reducible repeat (first | apply Kd.R_alloc | apply Kd.R_drewN | apply Kd.R_drew)); exact HO252.out⟩, ⟨by (with_reducible repeat (first | apply Kd.R_alloc | apply Kd.R_drewN | apply Kd.R_drew)); exact HO_11.out⟩, ⟨by repeat (first | (with_reducible first | exact HB.out | apply below_alloc | apply pw_below_drewN | apply below_drew1) | exact HB.out)⟩⟩
              · rw [if_neg c18] at H
                exact absurd H (by simp)
            · rw [if_neg c16] at H
              exact absurd H (by simp)
        · rw [if_neg c9] at H
          have c9b0 : decide (x12_1 < (a0.size : Int)) = false := decide_eq_false c9
          clear c9
          simp only [Option.some.injEq, Prod.mk.injEq] at H
          obtain ⟨rfl, rfl, rfl⟩ := H
          have hcv20 := own_string (P := Try.prog) Try.underlying36 Try.underlying5 Try.underlying9 (Kd.own_of_R HO_10.out)
          go_wp2
          go_ret3
          exact ⟨_, by first | rfl | (simp [errW_none, errW_some] <;> rfl) | (simp [*, errW_none, errW_some] <;> rfl), by (with_reducible repeat (first | apply Kd.R_alloc | apply Kd.R_drewN | apply Kd.R_drew)); exact HO_11.out, by repeat (first | (with_reducible first | exact HB.out | apply below_alloc | apply pw_below_drewN | apply below_drew1) | exact HB.out)⟩
  · rw [if_neg c5] at H
    have c5b0 : (t242 == 0) = false := beq_eq_false_iff_ne.mpr c5
    have c5b1 : (t242 != 0) = true := bne_iff_ne.mpr c5
    simp only [Option.some.injEq, Prod.mk.injEq] at H
    obtain ⟨rfl, rfl, rfl⟩ := H
    go_enter Try.func11, Try.ntmps11
    go_wp2_with (first | ((with_reducible refine gate_dst (N := 15) rfl ?_); refine Kd.R_lit Kd.string _ 9 ?hg (N := 15) ?hd (xs := ([a1, a2] : List ByteArray)) (inner := [.string a1, .string a2]) (ok := fun _ => True) (okp := fun _ => True) ?hr ?hp (fun _ hk => hk) trivial (Below.refl _ _) (Nat.le_refl _) (by simp) ?_; (case hd => rfl); (case hg => rfl); (case hr => first | (go_simp; done) | (go_simp; rfl)); (case hp => exact (Reps.one (show Kd.M Kd.string _ _ _ a1 [.string a1] from rfl) (Reps.one (show Kd.M Kd.string _ _ _ a2 [.string a2] from rfl) (Reps.none _ _)))); intro v240 w21 ho22 hb hg_ hnew_; clear hg_ hnew_; (first | rw [← Ny239.out] at ho22 | (simp only [Int.reduceToNat] at ho22; rw [← Ny239.out] at ho22)); have n0_ := Aside0.mk (Kd.R_lower ho22 (below_size (by repeat (first | (with_reducible first | exact HB.out | apply below_alloc | apply pw_below_drewN | apply below_drew1) | exact HB.out)))); have n1_ := Aside0.mk (below_step (by repeat (first | (with_reducible first | exact HB.out | apply below_alloc | apply pw_below_drewN | apply below_drew1) | exact HB.out)) hb); clear HB; have HO241 := n0_; have HB := n1_; clear n0_ n1_; clear hb ho22; obtain ⟨Ao23, co23, eo23⟩ := Kd.R_slice HO241.out; subst eo23) | ((with_reducible refine gate_callee (f := 21) rfl ?_); refine goesL_ (some 16) rfl rfl Try.func21 (by kernel_rfl) rfl #[.slice Ao23 y239.length co23] rfl (by (try simp only [List.map_toArray, List.map_cons, List.map_nil]); first | done | rfl | (simp only [List.length_drop, List.length_take]; rfl)) ?_; (with_reducible refine (depotref14_Wanted.calls k _ _ y239 t242 _ ?side1 ?side2 A4.out).mono ?_); (case side1 => repeat (first | exact (Kd.R_reads' HO241.out).2.2 | (with_reducible refine Kd.C_alloc ?_ _) | (with_reducible refine Kd.C_drewN ?_ _) | (with_reducible refine Kd.C_drew ?_))); (case side2 => exact (Kd.R_reads' HO241.out).2.1); rintro e w' ⟨rfl, ⟨nd, rfl⟩⟩; refine ⟨_, rfl, ?_⟩))
    go_ret3
    exact ⟨_, by first | rfl | (simp [errW_none, errW_some] <;> rfl) | (simp [*, errW_none, errW_some] <;> rfl), by first | exact Kd.R_nil _ _ _ _ _ | exact Kd.N_nil _ _ _ _ _ | exact Kd.V_nil _ _ _ _ _ | exact Kd.Q_nil _ _ _ _ _ | exact Kd.S_nil _ _ _ _ _, by repeat (first | (with_reducible first | exact HB.out | apply below_alloc | apply pw_below_drewN | apply below_drew1) | exact HB.out)⟩

end Go.Proofs.Ytbllmpfdhcbkpaa.Q
/- By a program of this session's: a plain Lean function for a Go function, and its contract. -/
namespace Go.Proofs.Ytbllmpfdhcbkpaa.Q
open Go.RowKit Go.Proofs.YtbllmpfdhcbkpaaW.PrintWords Go.Proofs.YtbllmpfdhcbkpaaW.PrintLast Go.Proofs.YtbllmpfdhcbkpaaW.PrintMore
attribute [local go_sem] max2_int min2_int max_two min_two max_three min_three max_four min_four Go.Proofs.Ytbllmpfdhcbkpaa.Ord.str_leq Go.Proofs.Ytbllmpfdhcbkpaa.Ord.str_gtr Go.Proofs.Ytbllmpfdhcbkpaa.Ord.str_geq   -- for this text's walks alone
set_option linter.unusedVariables false
set_option linter.unusedSimpArgs false

/-! ### depotlaw14_ints: function 12 -/
def depotlaw14_ints.l0 : Nat → List Int → List Int → Int → Int → Option (Bool)
  | 0, _, _, _, _ => none
  | k + 1, x0, x1, x12, x13 => if x13 < x12 then (if 0 ≤ x13 then (if x13 < (x0.length : Int) then (if x13 < (x1.length : Int) then (if (rd x0 x13) = (rd x1 x13) then (depotlaw14_ints.l0 k x0 x1 x12 (wrap64 (x13 + 1))) else (some false)) else (none)) else (none)) else (none)) else (some true)
def depotlaw14_ints.f (k : Nat) (l0 : List Int) (l1 : List Int) : Option (Bool) := if (l0.length : Int) = (l1.length : Int) then (depotlaw14_ints.l0 k l0 l1 (l0.length : Int) 0) else (some false)
theorem depotlaw14_ints.mono_l : ∀ k, (∀ y0 y1 y2 y3, LeO (depotlaw14_ints.l0 k y0 y1 y2 y3) (depotlaw14_ints.l0 (k + 1) y0 y1 y2 y3))
  | 0 => fun _ _ _ _ r h => by simp [depotlaw14_ints.l0] at h
  | k + 1 => by
    have ih0 := depotlaw14_ints.mono_l k
    · intro y0 y1 y2 y3
      unfold depotlaw14_ints.l0
      repeat' first
      | (with_reducible exact ih0 _ _ _ _)
      | (with_reducible exact LeO.refl _)
      | (with_reducible exact LeO.none _)
      | (with_reducible refine LeO.ite ?_ ?_)
      | (with_reducible refine LeO.bind ?_ (fun _ => ?_))
      | exact ih0 _ _ _ _
      | exact LeO.none _
      | refine LeO.ite ?_ ?_
      | refine LeO.bind ?_ (fun _ => ?_)
theorem depotlaw14_ints.mono : ∀ a0 a1 k, LeO (depotlaw14_ints.f k a0 a1) (depotlaw14_ints.f (k + 1) a0 a1) := by
  intro a0 a1 k
  have ih0 := depotlaw14_ints.mono_l k
  unfold depotlaw14_ints.f
  repeat' first
      | (with_reducible exact ih0 _ _ _ _)
      | (with_reducible exact LeO.refl _)
      | (with_reducible exact LeO.none _)
      | (with_reducible refine LeO.ite ?_ ?_)
      | (with_reducible refine LeO.bind ?_ (fun _ => ?_))
      | exact ih0 _ _ _ _
      | exact LeO.none _
      | refine LeO.ite ?_ ?_
      | refine LeO.bind ?_ (fun _ => ?_)
set_option maxHeartbeats 8000000 in
set_option maxRecDepth 100000 in
theorem depotlaw14_ints.calls (k : Nat) (A0 : Option Addr) (c0 : Nat) (l0 : List Int) (A1 : Option Addr) (c1 : Nat) (l1 : List Int) (r : Bool) (w : World) (hr0 : Kd.C (Kd.int .i64) w A0 l0.length l0) (hc0 : l0.length ≤ c0) (hr1 : Kd.C (Kd.int .i64) w A1 l1.length l1) (hc1 : l1.length ≤ c1) (h : depotlaw14_ints.f k l0 l1 = some r) :
    Calls Try.prog 12 #[.slice A0 l0.length c0, .slice A1 l1.length c1] w fun e w' => e = .returned (.bool r) ∧ Drawn0 w w' := by
  have HR0 := Aside0.mk hr0
  have HC0 := Aside0.mk hc0
  clear hr0 hc0
  have HR1 := Aside0.mk hr1
  have HC1 := Aside0.mk hc1
  clear hr1 hc1
  have H : (if (l0.length : Int) = (l1.length : Int) then (depotlaw14_ints.l0 k l0 l1 (l0.length : Int) 0) else (some false)) = some r := h
  clear h
  by_cases c3 : (l0.length : Int) = (l1.length : Int)
  · rw [if_pos c3] at H
    have c3b0 : ((l0.length : Int) == (l1.length : Int)) = true := beq_iff_eq.mpr c3
    have c3b1 : ((l0.length : Int) != (l1.length : Int)) = false := bne_eq_false_iff_eq.mpr c3
    have c3b2 : (l0.length == l1.length) = true := by first | simpa using c3 | (simp at c3 ⊢; omega)
    clear c3
    have H' := Aside0.mk H
    clear H
    go_enter Try.func12, Try.ntmps12
    go_wp2
    repeat (go_quiet (fail); try go_wp2)
    go_loopg [13] k (fun kq v13 w' => ∃ (x13_1 : Int), v13 = .int .i64 x13_1 ∧ Aside0 (depotlaw14_ints.l0 kq l0 l1 (l0.length : Int) x13_1 = some r) ∧ Aside0 (kq ≤ k) ∧ Drawn0 w w')
    case atStart => exact ⟨(0), (by first | rfl | (simp; done) | (simp [*]; done)), H', ⟨Nat.le_refl _⟩, by repeat (first | exact Drawn0.refl _ | apply Drawn0.step)⟩
    case round =>
      clear H'
      try clear c1
      try clear p2
      try clear c3
      try clear c3b0
      try clear c3b1
      try clear c3b2
      obtain ⟨x13_1, rfl, HA, HK1, ⟨m1, rfl⟩⟩ := hrel
      cases gk with
      | zero => exact absurd HA.out (by simp [depotlaw14_ints.l0])
      | succ k1 =>
        have H := HA.out
        clear HA
        simp only [depotlaw14_ints.l0] at H
        by_cases c4 : x13_1 < (l0.length : Int)
        · rw [if_pos c4] at H
          have c4b0 : decide (x13_1 < (l0.length : Int)) = true := decide_eq_true c4
          clear c4
          by_cases c5 : 0 ≤ x13_1
          · rw [if_pos c5] at H
            have c5b0 : decide (0 ≤ x13_1) = true := decide_eq_true c5
            clear c5
            by_cases c6 : x13_1 < (l0.length : Int)
            · rw [if_pos c6] at H
              have c6b0 : decide (x13_1 < (l0.length : Int)) = true := decide_eq_true c6
              clear c6
              by_cases c7 : x13_1 < (l1.length : Int)
              · rw [if_pos c7] at H
                have c7b0 : decide (x13_1 < (l1.length : Int)) = true := decide_eq_true c7
                clear c7
                by_cases c8 : (rd l0 x13_1) = (rd l1 x13_1)
                · rw [if_pos c8] at H
                  have c8b0 : ((rd l0 x13_1) == (rd l1 x13_1)) = true := beq_iff_eq.mpr c8
                  have c8b1 : ((rd l0 x13_1) != (rd l1 x13_1)) = false := bne_eq_false_iff_eq.mpr c8
                  clear c8
                  have H' := Aside0.mk H
                  clear H
                  have p253 : 0 ≤ (x13_1 : Int) := of_decide_eq_true (by first | (with_reducible assumption) | assumption)
                  have q253 : x13_1 < (l0.length : Int) := of_decide_eq_true (by first | (with_reducible assumption) | assumption)
                  obtain ⟨ad253, e253, hx253_0⟩ := Kd.at_int HR0.out x13_1 p253 q253
                  cases e253
                  replace p253 := eq_true p253
                  replace q253 := eq_true q253
                  have p254 : 0 ≤ (x13_1 : Int) := of_decide_eq_true (by first | (with_reducible assumption) | assumption)
                  have q254 : x13_1 < (l1.length : Int) := of_decide_eq_true (by first | (with_reducible assumption) | assumption)
                  obtain ⟨ad254, e254, hx254_0⟩ := Kd.at_int HR1.out x13_1 p254 q254
                  cases e254
                  replace p254 := eq_true p254
                  replace q254 := eq_true q254
                  go_wp2
                  repeat (go_quiet (fail); try go_wp2)
                  go_roundg k1
                  case measure => have := HK1.out; omega
                  case rel => exact ⟨(wrap64 (x13_1 + 1)), (by first | rfl | (simp; done) | (simp [*]; done)), H', ⟨by have := HK1.out; omega⟩, by repeat (first | exact Drawn0.refl _ | apply Drawn0.step)⟩
                · rw [if_neg c8] at H
                  have c8b0 : ((rd l0 x13_1) == (rd l1 x13_1)) = false := beq_eq_false_iff_ne.mpr c8
                  have c8b1 : ((rd l0 x13_1) != (rd l1 x13_1)) = true := bne_iff_ne.mpr c8
                  obtain rfl := Option.some.inj H
                  have p253 : 0 ≤ (x13_1 : Int) := of_decide_eq_true (by first | (with_reducible assumption) | assumption)
                  have q253 : x13_1 < (l0.length : Int) := of_decide_eq_true (by first | (with_reducible assumption) | assumption)
                  obtain ⟨ad253, e253, hx253_0⟩ := Kd.at_int HR0.out x13_1 p253 q253
                  cases e253
                  replace p253 := eq_true p253
                  replace q253 := eq_true q253
                  have p254 : 0 ≤ (x13_1 : Int) := of_decide_eq_true (by first | (with_reducible assumption) | assumption)
                  have q254 : x13_1 < (l1.length : Int) := of_decide_eq_true (by first | (with_reducible assumption) | assumption)
                  obtain ⟨ad254, e254, hx254_0⟩ := Kd.at_int HR1.out x13_1 p254 q254
                  cases e254
                  replace p254 := eq_true p254
                  replace q254 := eq_true q254
                  go_wp2
                  repeat (go_quiet (fail); try go_wp2)
                  go_ret
                  exact ⟨by first | rfl | (simp; done) | (simp [*]; done), by repeat (first | exact Drawn0.refl _ | apply Drawn0.step)⟩
              · rw [if_neg c7] at H
                exact absurd H (by simp)
            · rw [if_neg c6] at H
              exact absurd H (by simp)
          · rw [if_neg c5] at H
            exact absurd H (by simp)
        · rw [if_neg c4] at H
          have c4b0 : decide (x13_1 < (l0.length : Int)) = false := decide_eq_false c4
          clear c4
          obtain rfl := Option.some.inj H
          go_wp2
          repeat (go_quiet (fail); try go_wp2)
          go_ret
          exact ⟨by first | rfl | (simp; done) | (simp [*]; done), by repeat (first | exact Drawn0.refl _ | apply Drawn0.step)⟩
  · rw [if_neg c3] at H
    have c3b0 : ((l0.length : Int) == (l1.length : Int)) = false := beq_eq_false_iff_ne.mpr c3
    have c3b1 : ((l0.length : Int) != (l1.length : Int)) = true := bne_iff_ne.mpr c3
    have c3b2 : (l0.length == l1.length) = false := by first | simpa using c3 | (simp at c3 ⊢; omega)
    obtain rfl := Option.some.inj H
    go_enter Try.func12, Try.ntmps12
    go_wp2
    repeat (go_quiet (fail); try go_wp2)
    go_ret
    exact ⟨by first | rfl | (simp; done) | (simp [*]; done), by repeat (first | exact Drawn0.refl _ | apply Drawn0.step)⟩

end Go.Proofs.Ytbllmpfdhcbkpaa.Q
/- The document's Wanted, At and Rewrite; ints: in plain Lean. -/
namespace Go.Proofs.Ytbllmpfdhcbkpaa.Scan
open Go.RowKit Go.Proofs.Ytbllmpfdhcbkpaa.Q Go.Proofs.Ytbllmpfdhcbkpaa.SpathPure Go.Proofs.Ytbllmpfdhcbkpaa.Evs Go.Proofs.YtbllmpfdhcbkpaaW.PrintWords Go.Proofs.YtbllmpfdhcbkpaaW.PrintLast Go.Proofs.YtbllmpfdhcbkpaaW.PrintMore Go.Proofs.Ytbllmpfdhcbkpaa.Bytes
set_option linter.unusedVariables false
set_option linter.unusedSimpArgs false
theorem ref_wanted_l0 (hs : List ByteArray) (hl : hs.length ≤ 1099511627776) (d : Nat) : ∀ i, i + d = hs.length → Ev (fun k => depotref14_Wanted.l0 k hs (i : Int)) (wantedL (hs.drop i)) := by
  induction d with
  | zero =>
    intro i hi
    refine succ ?_
    simp only [depotref14_Wanted.l0]
    rw [List.drop_of_length_le (by omega)]
    exact neg (by omega) (Ev.now _)
  | succ d ih =>
    intro i hi
    have hlt : i < hs.length := by omega
    refine succ ?_
    simp only [depotref14_Wanted.l0]
    refine pos (by omega) (pos (by omega) ?_)
    have hd : hs.drop i = hs[i] :: hs.drop (i + 1) := List.drop_eq_getElem_cons hlt
    have hr : rdOf ByteArray.empty hs (i : Int) = hs[i] := by rw [rd_nat, List.getD_eq_getElem?_getD, List.getElem?_eq_getElem hlt]; rfl
    rw [hr]
    refine Ev.bind (ref_hash _) ?_
    rw [hd, wantedL]
    by_cases hz : hashNo (bs hs[i]) = 0
    · rw [if_neg (fun h => h hz)]
      refine pos hz ?_
      rw [wr i (by omega)]
      exact ih (i + 1) (by omega)
    · rw [if_pos hz]
      exact neg hz (Ev.now _)
theorem ref_wanted (hs : List ByteArray) (hl : hs.length ≤ 1099511627776) : Ev (fun k => depotref14_Wanted.f k hs) (wantedL hs) := by
  unfold depotref14_Wanted.f
  have := ref_wanted_l0 hs hl hs.length 0 (by omega)
  rwa [List.drop_zero] at this
theorem wanted_two (f t : ByteArray) : wantedL [f, t] = wanted2 f t := by
  unfold wantedL wantedL wantedL wanted2
  split
  · rfl
  · split
    · rfl
    · next h => exact (Classical.not_not.1 h).symm
def nb (l : List UInt8) : List Int := l.map (fun b : UInt8 => (b.toNat : Int))
theorem str_nb (l : List UInt8) : strOfNums (nb l) = ⟨l.toArray⟩ := by
  unfold strOfNums nb
  rw [List.map_map]
  congr 2
  rw [List.map_congr_left (g := id) (fun x _ => by simp), List.map_id]
theorem ref_at (text f : ByteArray) (hf : (bs f).length = 32) (hs : text.size ≤ 4294967000) (i : Nat) (hi : i ≤ text.size) : depotref14_At.f text f (i : Int) = some (decide (((bs text).drop i).take 32 = bs f)) := by
  have hfs : f.size = 32 := by rw [size_bs]; exact hf
  have hw : wrap64 ((i : Int) + (f.size : Int)) = ((i + 32 : Nat) : Int) := by rw [hfs, w64 (by omega) (by omega)]; omega
  unfold depotref14_At.f
  rw [hw]
  by_cases h : i + 32 ≤ text.size
  · rw [if_pos (by omega), if_pos (by omega), if_pos (by omega)]
    congr 1
    rw [toList_bs, toList_bs, bs_extract, Int.toNat_natCast, Int.toNat_natCast, show i + 32 - i = 32 by omega, Bool.eq_iff_iff, beq_iff_eq, decide_eq_true_eq]
  · rw [if_neg (by omega)]
    congr 1
    refine (decide_eq_false (fun e => ?_)).symm
    have := win_length hf e
    rw [← size_bs] at this
    omega
theorem ref_rw_l0 (text f t : ByteArray) (hf : (bs f).length = 32) (ht : (bs t).length = 32) (hs : text.size ≤ 4294967000) : ∀ (n i : Nat) (out : List UInt8) (pl : List Nat), i + n = text.size → out.length ≤ i → pl.length ≤ i →
    Ev (fun k => depotref14_Rewrite.l0 k text f t (nb out) (zs pl) (i : Int)) (⟨(out ++ R (bs f) (bs t) ((bs text).drop i)).toArray⟩, zs (pl ++ Pl (bs f) ((bs text).drop i) i), 0) := by
  intro n
  induction n using Nat.strongRecOn with
  | _ n ih =>
    intro i out pl hi ho hp
    have hts : t.size = 32 := by rw [size_bs]; exact ht
    have hnb : (nb out).length = out.length := by unfold nb; rw [List.length_map]
    have hzl : (zs pl).length = pl.length := by unfold zs; rw [List.length_map]
    refine succ ?_
    simp only [depotref14_Rewrite.l0]
    by_cases hlt : i < text.size
    · refine pos (by omega) ?_
      refine call (ref_at text f hf hs i (by omega)) ?_
      have hlb : i < (bs text).length := by rw [← size_bs]; exact hlt
      have hd : (bs text).drop i = (bs text)[i] :: (bs text).drop (i + 1) := List.drop_eq_getElem_cons hlb
      by_cases e : ((bs text).drop i).take 32 = bs f
      · have hwl := win_length hf e
        rw [← size_bs] at hwl
        refine pos (decide_eq_true e) (pos (by rw [hnb, hts]; omega) (pos (by rw [hzl]; omega) ?_))
        have hw : wrap64 ((i : Int) + 32) = ((i + 32 : Nat) : Int) := by rw [w64 (by omega) (by omega)]; omega
        have e1 : nb out ++ bytesOf t = nb (out ++ bs t) := by
          unfold nb bs
          rw [List.map_append]
          rfl
        have e2 : zs pl ++ [(i : Int)] = zs (pl ++ [i]) := by
          unfold zs
          rw [List.map_append]
          rfl
        rw [hw, e1, e2]
        clear hw e1 e2
        refine same ?_ (ih (n - 32) (by omega) (i + 32) (out ++ bs t) (pl ++ [i]) (by omega) (by rw [List.length_append, ht]; omega) (by rw [List.length_append, List.length_singleton]; omega))
        rw [R_hit hf e, Pl_hit hf e, List.drop_drop, List.append_assoc, List.append_assoc]
        rfl
      · refine neg (by rw [decide_eq_true_eq]; exact e) (pos (by omega) (pos (by rw [hnb]; omega) ?_))
        have e1 : nb out ++ [bt text (i : Int)] = nb (out ++ [(bs text)[i]]) := by
          rw [bt_lt text i hlb]
          unfold nb
          rw [List.map_append]
          rfl
        rw [wr i (by omega), e1]
        clear e1
        refine same ?_ (ih (n - 1) (by omega) (i + 1) (out ++ [(bs text)[i]]) pl (by omega) (by rw [List.length_append, List.length_singleton]; omega) (by omega))
        rw [hd] at e ⊢
        rw [R_miss e, Pl_miss e, List.append_assoc]
        rfl
    · refine neg (by omega) ?_
      refine same ?_ (Ev.now _)
      rw [List.drop_of_length_le (by rw [← size_bs]; omega), R_nil, Pl_nil, List.append_nil, List.append_nil, str_nb]
theorem ref_rewrite (text f t : ByteArray) (hs : text.size ≤ 4294967000) : Ev (fun k => depotref14_Rewrite.f k text f t) (if wanted2 f t = 0 then (⟨(R (bs f) (bs t) (bs text)).toArray⟩, zs (Pl (bs f) (bs text) 0), 0) else (⟨#[]⟩, [], wanted2 f t)) := by
  unfold depotref14_Rewrite.f
  refine Ev.bind (ref_wanted [f, t] (by simp)) ?_
  rw [wanted_two]
  by_cases h : wanted2 f t = 0
  · obtain ⟨h1, h2⟩ := wanted_len h
    rw [if_pos h]
    refine pos h ?_
    have := ref_rw_l0 text f t h1 h2 hs text.size 0 [] [] (by omega) (Nat.le_refl _) (Nat.le_refl _)
    rw [List.drop_zero, List.nil_append, List.nil_append] at this
    exact this
  · rw [if_neg h]
    exact neg h (Ev.now _)
theorem ints_l0 (l : List Int) (hl : l.length ≤ 1099511627776) (d : Nat) : ∀ i, i + d = l.length → Ev (fun k => depotlaw14_ints.l0 k l l (l.length : Int) (i : Int)) true := by
  induction d with
  | zero =>
    intro i hi
    refine succ ?_
    simp only [depotlaw14_ints.l0]
    exact neg (by omega) (Ev.now _)
  | succ d ih =>
    intro i hi
    refine succ ?_
    simp only [depotlaw14_ints.l0]
    refine pos (by omega) (pos (by omega) (pos (by omega) (pos (by omega) (pos (by first | rfl | trivial) ?_))))
    rw [wr i (by omega)]
    exact ih (i + 1) (by omega)
theorem ints_same (l : List Int) (hl : l.length ≤ 1099511627776) : Ev (fun k => depotlaw14_ints.f k l l) true := by
  unfold depotlaw14_ints.f
  exact pos (by first | rfl | trivial) (ints_l0 l hl l.length 0 (by omega))
end Go.Proofs.Ytbllmpfdhcbkpaa.Scan
/- A Scanner and a Rewriter as one thing each: the text that came in, what was told. -/
namespace Go.Proofs.Ytbllmpfdhcbkpaa.Scan
open Go.Shelf Go.RowKit Go.Proofs.Ytbllmpfdhcbkpaa.Q Go.Proofs.Ytbllmpfdhcbkpaa.SpathPure Go.Proofs.Ytbllmpfdhcbkpaa.Rise Go.Proofs.YtbllmpfdhcbkpaaW.PrintWords Go.Proofs.YtbllmpfdhcbkpaaW.PrintLast Go.Proofs.YtbllmpfdhcbkpaaW.PrintMore Go.Proofs.Ytbllmpfdhcbkpaa.Bytes
set_option linter.unusedVariables false
set_option linter.unusedSimpArgs false
/-- A Scanner of these hashes that took S. -/
def Scn (W : World) (base b : Nat) (hashes : List ByteArray) (S : List UInt8) : Prop :=
  ∃ (bm n : Nat) (vt vs : Value) (D : DataW Unit) (Hs : List ByteArray) (seen : List Bool), ScM W base b bm n vt vs (keep S) S.length D seen ∧ Nw hashes hashes.length D Hs ∧ seen.length = Hs.length ∧ n ≤ hashes.length ∧ hashes.length ≤ 1048577 ∧
    ∀ (k : Nat) (h : ByteArray), Hs[k]? = some h → (seen[k]? = some true ↔ Occ S (bs h))
theorem Scn.less {W W2 : World} {base b : Nat} {hashes : List ByteArray} {S : List UInt8} (h : Scn W base b hashes S) (k : Below W.heap.size W W2) : Scn W2 base b hashes S := by
  obtain ⟨bm, n, vt, vs, D, Hs, seen, h1, r⟩ := h
  exact ⟨bm, n, vt, vs, D, Hs, seen, h1.less k, r⟩
theorem Scn.lies {W : World} {base b : Nat} {hashes : List ByteArray} {S : List UInt8} (h : Scn W base b hashes S) : base ≤ b ∧ b < W.heap.size := by
  obtain ⟨bm, n, vt, vs, D, Hs, seen, h1, r⟩ := h
  exact ⟨h1.low, (Array.getElem?_eq_some_iff.1 h1.lies).1⟩
theorem occ_nil {f : List UInt8} (hf : f.length = 32) : ¬ Occ [] f := fun ⟨a, e⟩ => by
  have := win_length hf e
  simp at this
theorem scn_new (w : World) (A : Option Addr) (c : Nat) (hashes : List ByteArray) (hC : Kd.C Kd.string w A hashes.length hashes) (hc : hashes.length ≤ c) (hs : ∀ h ∈ hashes, h.size ≤ 140737488351232) (hn : hashes.length ≤ 1048577) (hw : wantedL hashes = 0) :
    Calls Try.prog 13 #[.slice A hashes.length c] w fun e w' => e = .returned (.tuple #[.pointer (some ⟨w.heap.size + 1, 0, none⟩), .int .i64 0]) ∧ Scn w' w.heap.size (w.heap.size + 1) hashes [] ∧ Below w.heap.size w w' := by
  refine (new_calls w A c hashes hC hc hs (by omega)).mono ?_
  rintro e w' ⟨hb, h⟩
  rcases h with h | ⟨_, n, vs, D, Hs, rfl, hm, hn', hnw⟩
  · exact absurd hw h.1
  · refine ⟨rfl, ⟨_, n, _, vs, D, Hs, _, hm, hnw, List.length_replicate, hn', hn, fun k h hk => ?_⟩, hb⟩
    have hx := hnw.ok h ((hnw.mem h).1 (List.mem_of_getElem? hk))
    constructor
    · intro e
      rw [List.getElem?_replicate] at e
      split at e
      · injection e with e
        cases e
      · cases e
    · exact fun h => absurd h (occ_nil (hash_len hx))
theorem new_bad (w : World) (A : Option Addr) (c : Nat) (hashes : List ByteArray) (hC : Kd.C Kd.string w A hashes.length hashes) (hc : hashes.length ≤ c) (hs : ∀ h ∈ hashes, h.size ≤ 140737488351232) (hn : hashes.length ≤ 1048577) (hw : wantedL hashes ≠ 0) :
    Calls Try.prog 13 #[.slice A hashes.length c] w fun e w' => e = .returned (.tuple #[.pointer none, .int .i64 (wantedL hashes)]) ∧ Below w.heap.size w w' := by
  refine (new_calls w A c hashes hC hc hs (by omega)).mono ?_
  rintro e w' ⟨hb, h⟩
  rcases h with h | h
  · exact ⟨h.2, hb⟩
  · exact absurd h.1 hw
theorem scn_feed (w : World) (base b : Nat) (hashes : List ByteArray) (S : List UInt8) (h : Scn w base b hashes S) (gp op m cp : Nat) (p : List UInt8) (hm : m = p.length) (hmc : m ≤ cp) (hp : ∀ j x, p[j]? = some x → w.cell? ⟨gp, op + j, none⟩ = some (bc x)) (np : gp ≠ b) (hsz : p.length ≤ 4294960000) (hk : S.length ≤ 2305843009213693952) :
    Calls Try.prog 14 #[.pointer (some ⟨b, 0, none⟩), .slice (some ⟨gp, op, none⟩) m cp] w fun e w' => e = .returned (.tuple #[]) ∧ Scn w' base b hashes (S ++ p) ∧ Below base w w' := by
  obtain ⟨bm, n, vt, vs, D, Hs, seen, h1, h2, h3, h4, h5, h6⟩ := h
  have hok : ∀ x ∈ Hs, hashNo (bs x) = 0 := fun x hx => h2.ok x ((h2.mem x).1 hx)
  have hkl : (keep S).length ≤ 31 := by unfold keep; rw [List.length_drop]; omega
  refine (scFeed_calls w base b bm n vt vs (keep S) S.length D Hs seen h1 h2.mo h2.nd hok h3 (by omega) gp op m cp p hm hmc hp np (by omega) hk).mono ?_
  rintro e w' ⟨vt', seen', rfl, hs, hsn, hf, _⟩
  refine ⟨rfl, ⟨bm, n, vt', vs, D, Hs, seen', ?_, h2, by rw [hsn.1, h3], h4, h5, fun k h hk => ?_⟩, below_fr (Below.refl base w) hf (fun g hg => ?_) ?_⟩
  · have e1 : (keep S ++ p).drop ((keep S ++ p).length - 31) = keep (S ++ p) := keep_more S p
    have e2 : (S ++ p).length = S.length + m := by rw [List.length_append, hm]
    rw [e1] at hs
    rw [e2]
    exact hs
  · have hl := hash_len (hok h (List.mem_of_getElem? hk))
    rw [hsn.2 k h hk, h6 k h hk, occ_more hl]
    constructor
    · rintro (h | ⟨a, _, e⟩)
      · exact Or.inl h
      · exact Or.inr ⟨a, e⟩
    · rintro (h | ⟨a, e⟩)
      · exact Or.inl h
      · have := win_length hl e
        exact Or.inr ⟨a, by omega, e⟩
  · rcases hg with rfl | hg
    · exact h1.low
    · exact (s_block h1.rs hg).1
  · have := (Array.getElem?_eq_some_iff.1 h1.lies).1
    have := h1.low
    omega
theorem scn_found (w : World) (base b : Nat) (hashes : List ByteArray) (S : List UInt8) (h : Scn w base b hashes S) :
    Calls Try.prog 15 #[.pointer (some ⟨b, 0, none⟩)] w fun e w' => ∃ (v' : Value) (L : List ByteArray), e = .returned v' ∧ Kd.R Kd.string 9 w' w.heap.size (fun _ => True) v' L ∧ Below w.heap.size w w' ∧ Sorted L ∧ ∀ x, x ∈ L ↔ x ∈ hashes ∧ Occ S (bs x) := by
  obtain ⟨bm, n, vt, vs, D, Hs, seen, h1, h2, h3, h4, h5, h6⟩ := h
  have hl : Hs.length ≤ hashes.length := len_sub Hs hashes h2.nd (fun x hx => by have := (h2.mem x).1 hx; simpa using this)
  refine (found_calls w base b bm n vt vs _ _ D Hs seen h1 h2.mo h2.nd h3 (by omega)).mono ?_
  rintro e w' ⟨v', L, rfl, hr, hb, hs, hm⟩
  refine ⟨v', L, rfl, hr, hb, hs, fun x => ?_⟩
  rw [hm x]
  constructor
  · rintro ⟨k, hk, e⟩
    have := (h2.mem x).1 (List.mem_of_getElem? hk)
    rw [List.take_length] at this
    exact ⟨this, (h6 k x hk).1 e⟩
  · rintro ⟨hx, ho⟩
    obtain ⟨k, hk, e⟩ := List.getElem_of_mem ((h2.mem x).2 (by rw [List.take_length]; exact hx))
    have hk' : Hs[k]? = some x := by rw [List.getElem?_eq_getElem hk, e]
    exact ⟨k, hk', (h6 k x hk').2 ho⟩
theorem scn_taken (w : World) (base b : Nat) (hashes : List ByteArray) (S : List UInt8) (h : Scn w base b hashes S) :
    Calls Try.prog 22 #[.pointer (some ⟨b, 0, none⟩)] w fun e w' => e = .returned (.int .i64 (S.length : Nat)) ∧ w' = w := by
  obtain ⟨bm, n, vt, vs, D, Hs, seen, h1, r⟩ := h
  exact taken_calls w b _ _ _ h1.lies rfl
/-- A Rewriter that took S, told out, and stands open. -/
def Rwr (W : World) (base b : Nat) (f t : ByteArray) (S out : List UInt8) : Prop :=
  ∃ (pl : List Nat) (vt vp : Value) (tl : List UInt8) (d : Nat), Rw W base b vt vp tl S.length f t d pl false ∧ Fed (bs f) (bs t) S out pl 0 tl d ∧ tl.length < 32
/-- .. that is closed. -/
def Rwc (W : World) (base b : Nat) (f t : ByteArray) (S : List UInt8) : Prop :=
  ∃ (vt vp : Value) (tl : List UInt8) (d : Nat), Rw W base b vt vp tl S.length f t d (Pl (bs f) S 0) true
theorem Rwr.less {W W2 : World} {base b : Nat} {f t : ByteArray} {S out : List UInt8} (h : Rwr W base b f t S out) (k : Below W.heap.size W W2) : Rwr W2 base b f t S out := by
  obtain ⟨pl, vt, vp, tl, d, h1, r⟩ := h
  exact ⟨pl, vt, vp, tl, d, h1.below k, r⟩
theorem Rwc.less {W W2 : World} {base b : Nat} {f t : ByteArray} {S : List UInt8} (h : Rwc W base b f t S) (k : Below W.heap.size W W2) : Rwc W2 base b f t S := by
  obtain ⟨vt, vp, tl, d, h1⟩ := h
  exact ⟨vt, vp, tl, d, h1.below k⟩
theorem Rwr.lies {W : World} {base b : Nat} {f t : ByteArray} {S out : List UInt8} (h : Rwr W base b f t S out) : base ≤ b ∧ b < W.heap.size := by
  obtain ⟨pl, vt, vp, tl, d, h1, r⟩ := h
  exact ⟨h1.low, (Array.getElem?_eq_some_iff.1 h1.lies).1⟩
theorem Rwc.lies {W : World} {base b : Nat} {f t : ByteArray} {S : List UInt8} (h : Rwc W base b f t S) : base ≤ b ∧ b < W.heap.size := by
  obtain ⟨vt, vp, tl, d, h1⟩ := h
  exact ⟨h1.low, (Array.getElem?_eq_some_iff.1 h1.lies).1⟩
theorem rwr_new (w : World) (f t : ByteArray) (hf : f.size ≤ 140737488351232) (ht : t.size ≤ 140737488351232) (hw : wanted2 f t = 0) : Calls Try.prog 16 #[.string f, .string t] w fun e w' =>
    ∃ b, e = .returned (.tuple #[.pointer (some ⟨b, 0, none⟩), .int .i64 0]) ∧ Rwr w' w.heap.size b f t [] [] ∧ Below w.heap.size w w' := by
  refine (newRw_calls w f t hf ht).mono ?_
  rintro e w' (h | ⟨_, b, rfl, hr, hb⟩)
  · exact absurd hw h.1
  · exact ⟨b, rfl, ⟨[], _, _, [], 0, hr, Fed.start _ _ _ _, by decide⟩, hb⟩
theorem rwr_feed (w : World) (base b : Nat) (m : Int) (f t : ByteArray) (S out : List UInt8) (h : Rwr w base b f t S out) (hz : 0 < base) (hm : w.cell? ⟨0, 0, none⟩ = some (.int .i64 m)) (hf : (bs f).length = 32) (ht : (bs t).length = 32)
    (gp op n cp : Nat) (p : List UInt8) (hn : n = p.length) (hnc : n ≤ cp) (hp : ∀ j x, p[j]? = some x → w.cell? ⟨gp, op + j, none⟩ = some (bc x)) (np : gp ≠ b) (hsz : p.length ≤ 4294960000) (hk : S.length ≤ 1099511627776) :
    Calls Try.prog 17 #[.pointer (some ⟨b, 0, none⟩), .slice (some ⟨gp, op, none⟩) n cp] w fun e w' => ∃ O : ByteArray, e = .returned (.string O) ∧ Rwr w' base b f t (S ++ p) (out ++ bs O) ∧ Below base w w' := by
  obtain ⟨pl, vt, vp, tl, d, h1, h2, h3⟩ := h
  have hbs := (Array.getElem?_eq_some_iff.1 h1.lies).1
  have hlow := h1.low
  have hd := h2.pos
  have hpl : pl.length ≤ S.length := by
    have e := congrArg List.length (h2.place [])
    rw [List.append_nil, List.append_nil, List.length_append] at e
    have := Pl_length hf _ S 0 (Nat.le_refl _)
    omega
  refine (feed_calls w base b m vt vp tl S.length f t d pl h1 hz (by omega) hm hf ht gp op n cp p hn hnc hp np (by omega) (by omega) (by omega) (by omega)).mono ?_
  rintro e w' ⟨O, T, pl2, d', vt', vp', rfl, hfd, htl, hr, hfr, _⟩
  refine ⟨O, rfl, ⟨pl ++ pl2, vt', vp', bs T, d', ?_, h2.more hfd, by rw [← size_bs]; exact htl⟩, below_fr (Below.refl base w) hfr (fun g hg => ?_) (by omega)⟩
  · rw [List.length_append, ← hn]
    exact hr
  · rcases hg with rfl | hg
    · exact hlow
    · rcases r_own h1.rp with ⟨rfl, _⟩ | ⟨g', cap, cur, rfl, hb, _⟩
      · cases hg
      · have : g' = g := by simpa [Value.ownBlock] using hg
        omega
theorem Rwr.told {W : World} {base b : Nat} {f t : ByteArray} {S out : List UInt8} (h : Rwr W base b f t S out) : out.length ≤ S.length := by
  obtain ⟨pl, vt, vp, tl, d, h1, h2, h3⟩ := h
  have := h2.len
  omega
theorem rwr_taken (w : World) (base b : Nat) (f t : ByteArray) (S out : List UInt8) (h : Rwr w base b f t S out) :
    Calls Try.prog 22 #[.pointer (some ⟨b, 0, none⟩)] w fun e w' => e = .returned (.int .i64 (S.length : Nat)) ∧ w' = w := by
  obtain ⟨pl, vt, vp, tl, d, h1, r⟩ := h
  exact taken_calls w b _ _ _ h1.lies rfl
theorem rwc_taken (w : World) (base b : Nat) (f t : ByteArray) (S : List UInt8) (h : Rwc w base b f t S) :
    Calls Try.prog 22 #[.pointer (some ⟨b, 0, none⟩)] w fun e w' => e = .returned (.int .i64 (S.length : Nat)) ∧ w' = w := by
  obtain ⟨vt, vp, tl, d, h1⟩ := h
  exact taken_calls w b _ _ _ h1.lies rfl
theorem rwr_close (w : World) (base b : Nat) (f t : ByteArray) (S out : List UInt8) (h : Rwr w base b f t S out) (hf : (bs f).length = 32) : Calls Try.prog 18 #[.pointer (some ⟨b, 0, none⟩)] w fun e w' =>
    ∃ T : ByteArray, e = .returned (.string T) ∧ out ++ bs T = R (bs f) (bs t) S ∧ Rwc w' base b f t S ∧ Below base w w' := by
  obtain ⟨pl, vt, vp, tl, d, h1, h2, h3⟩ := h
  obtain ⟨e1, e2⟩ := h2.whole hf h3
  have hbs := (Array.getElem?_eq_some_iff.1 h1.lies).1
  have hlow := h1.low
  refine (close_calls w base b vt vp tl _ f t d pl false h1).mono ?_
  rintro e w' ⟨rfl, hr, hfr⟩
  rw [if_neg Bool.false_ne_true]
  exact ⟨_, rfl, by rw [bs_mk]; exact e1, ⟨vt, vp, tl, d, by rw [← e2]; exact hr⟩, below_fr (Below.refl base w) hfr (fun g hg => by rw [hg]; exact hlow) (by omega)⟩
theorem rwc_close (w : World) (base b : Nat) (f t : ByteArray) (S : List UInt8) (h : Rwc w base b f t S) : Calls Try.prog 18 #[.pointer (some ⟨b, 0, none⟩)] w fun e w' =>
    e = .returned (.string ⟨#[]⟩) ∧ Rwc w' base b f t S ∧ Below base w w' := by
  obtain ⟨vt, vp, tl, d, h1⟩ := h
  have hbs := (Array.getElem?_eq_some_iff.1 h1.lies).1
  have hlow := h1.low
  refine (close_calls w base b vt vp tl _ f t d _ true h1).mono ?_
  rintro e w' ⟨rfl, hr, hfr⟩
  rw [if_pos rfl]
  exact ⟨rfl, ⟨vt, vp, tl, d, hr⟩, below_fr (Below.refl base w) hfr (fun g hg => by rw [hg]; exact hlow) (by omega)⟩
theorem rwc_places (w : World) (base b : Nat) (f t : ByteArray) (S : List UInt8) (h : Rwc w base b f t S) (hf : (bs f).length = 32) (hs : S.length ≤ 1099511627776) : Calls Try.prog 19 #[.pointer (some ⟨b, 0, none⟩)] w fun e w' =>
    ∃ v', e = .returned v' ∧ Kd.R (Kd.int .i64) 3 w' w.heap.size (fun _ => True) v' (zs (Pl (bs f) S 0)) ∧ Below w.heap.size w w' := by
  obtain ⟨vt, vp, tl, d, h1⟩ := h
  have := Pl_length hf _ S 0 (Nat.le_refl _)
  exact places_calls w base b vt vp tl _ f t d _ true h1 (by omega)
/-- A Feed of one that is closed: nothing. -/
theorem rwc_feed (w : World) (base b : Nat) (f t : ByteArray) (S : List UInt8) (h : Rwc w base b f t S) (A : Option Addr) (n c : Nat) : Calls Try.prog 17 #[.pointer (some ⟨b, 0, none⟩), .slice A n c] w fun e w' => e = .returned (.string ⟨#[]⟩) ∧ w' = w := by
  obtain ⟨vt, vp, tl, d, h1⟩ := h
  have c6 := row_cell (i := 6) h1.lies rfl
  clear h1
  go_enter Try.func17, Try.ntmps17
  go_wp2
  go_ret
  exact ⟨rfl, rfl⟩
/-- Where f stood, and the text around. -/
theorem pl_cons {f : List UInt8} (t : List UInt8) (hf : f.length = 32) : ∀ (s : List UInt8) (d p : Nat) (rest : List Nat), Pl f s d = p :: rest → ∃ j, p = d + j ∧ j + 32 ≤ s.length ∧ (s.drop j).take 32 = f ∧ rest = Pl f (s.drop (j + 32)) (p + 32) ∧ R f t s = s.take j ++ (t ++ R f t (s.drop (j + 32)))
  | [], d, p, rest, h => by rw [Pl_nil] at h; cases h
  | c :: s, d, p, rest, h => by
    by_cases e : (c :: s).take 32 = f
    · rw [Pl_hit hf e] at h
      injection h with h1 h2
      have hl := congrArg List.length e
      rw [hf, List.length_take] at hl
      refine ⟨0, by omega, by omega, e, ?_, ?_⟩
      · rw [← h2, ← h1, Nat.zero_add]
      · rw [R_hit hf e, Nat.zero_add]
        rfl
    · rw [Pl_miss e] at h
      obtain ⟨j, h1, h2, h3, h4, h5⟩ := pl_cons t hf s (d + 1) p rest h
      refine ⟨j + 1, by omega, by rw [List.length_cons]; omega, h3, ?_, ?_⟩
      · rw [h4, Nat.add_right_comm j 1 32, List.drop_succ_cons]
      · rw [R_miss e, h5, Nat.add_right_comm j 1 32, List.drop_succ_cons]
        rfl
theorem pl_none {f : List UInt8} (t : List UInt8) (hf : f.length = 32) : ∀ (s : List UInt8) (d : Nat), Pl f s d = [] → R f t s = s ∧ ¬ Occ s f
  | [], d, h => ⟨R_nil f t, occ_nil hf⟩
  | c :: s, d, h => by
    by_cases e : (c :: s).take 32 = f
    · rw [Pl_hit hf e] at h
      cases h
    · rw [Pl_miss e] at h
      obtain ⟨h1, h2⟩ := pl_none t hf s (d + 1) h
      refine ⟨by rw [R_miss e, h1], fun ⟨a, ha⟩ => ?_⟩
      cases a with
      | zero => exact e ha
      | succ a => exact h2 ⟨a, by simpa using ha⟩
theorem pl_occ {f : List UInt8} (hf : f.length = 32) (s : List UInt8) : (Pl f s 0).length > 0 ↔ Occ s f := by
  cases h : Pl f s 0 with
  | nil => simp [(pl_none f hf s 0 h).2]
  | cons p rest =>
    obtain ⟨j, _, _, h3, _⟩ := pl_cons f hf s 0 p rest h
    simp only [List.length_cons, Nat.zero_lt_succ, true_iff, gt_iff_lt]
    exact ⟨j, h3⟩
end Go.Proofs.Ytbllmpfdhcbkpaa.Scan
/- The law ScanSwaps. -/
namespace Go.Proofs.Ytbllmpfdhcbkpaa.Scan
open Go.Shelf Go.RowKit Go.Proofs.Ytbllmpfdhcbkpaa.Q Go.Proofs.Ytbllmpfdhcbkpaa.SpathPure Go.Proofs.Ytbllmpfdhcbkpaa.Rise Go.Proofs.YtbllmpfdhcbkpaaW.PrintWords Go.Proofs.YtbllmpfdhcbkpaaW.PrintLast Go.Proofs.YtbllmpfdhcbkpaaW.PrintMore Go.Proofs.Ytbllmpfdhcbkpaa.Bytes
set_option linter.unusedVariables false
set_option linter.unusedSimpArgs false
/-- Where the loop over the places stands. -/
structure Mark (f t X O : List UInt8) (P : List Nat) (i p : Nat) : Prop where
  pl : Pl f (X.drop p) p = P.drop i
  out : O.drop p = R f t (X.drop p)
  le : p ≤ X.length
theorem Mark.start (f t X : List UInt8) : Mark f t X (R f t X) (Pl f X 0) 0 0 := ⟨rfl, rfl, Nat.zero_le _⟩
theorem Mark.next {f t X O : List UInt8} {P : List Nat} {i p : Nat} (hf : f.length = 32) (ht : t.length = 32) (h : Mark f t X O P i p) (hi : i < P.length) : p ≤ P[i] ∧ P[i] + 32 ≤ X.length ∧ (X.drop p).take (P[i] - p) = (O.drop p).take (P[i] - p) ∧ (X.drop P[i]).take 32 = f ∧ (O.drop P[i]).take 32 = t ∧ Mark f t X O P (i + 1) (P[i] + 32) := by
  obtain ⟨q, hq⟩ : ∃ q, P[i] = q := ⟨_, rfl⟩
  have hd : P.drop i = q :: P.drop (i + 1) := by rw [List.drop_eq_getElem_cons hi, hq]
  obtain ⟨j, h1, h2, h3, h4, h5⟩ := pl_cons t hf (X.drop p) p q (P.drop (i + 1)) (h.pl.trans hd)
  have hle := h.le
  rw [List.length_drop] at h2
  rw [hq]
  have hj : q - p = j := by omega
  have hO : O.drop p = (X.drop p).take j ++ (t ++ R f t ((X.drop p).drop (j + 32))) := h.out.trans h5
  have hl : ((X.drop p).take j).length = j := by rw [List.length_take, List.length_drop]; omega
  have hOq : O.drop q = t ++ R f t ((X.drop p).drop (j + 32)) := by
    rw [show q = p + j from h1, ← List.drop_drop, hO, List.drop_append_of_le_length (by omega), List.drop_of_length_le (by omega), List.nil_append]
  have hX : (X.drop p).drop (j + 32) = X.drop (q + 32) := by rw [List.drop_drop, h1, Nat.add_assoc]
  refine ⟨by omega, by omega, ?_, ?_, ?_, ?_, ?_, by omega⟩
  · rw [hO, hj, List.take_append_of_le_length (by omega), List.take_take, Nat.min_self]
  · rw [h1, ← List.drop_drop]; exact h3
  · rw [hOq, List.take_append_of_le_length (by omega), List.take_of_length_le (by omega)]
  · rw [← hX, ← h4]
  · rw [← List.drop_drop, hOq, ← hX, List.drop_append_of_le_length (by omega), List.drop_of_length_le (by omega), List.nil_append]
theorem Mark.last {f t X O : List UInt8} {P : List Nat} {p : Nat} (hf : f.length = 32) (h : Mark f t X O P P.length p) : X.drop p = O.drop p := by
  have h1 := h.pl
  rw [List.drop_of_length_le (Nat.le_refl _)] at h1
  rw [h.out, (pl_none t hf _ _ h1).1]
theorem run_cut (W : World) (s : ByteArray) (a b : Int) (h0 : 0 ≤ a) (h1 : a ≤ b) (h2 : b ≤ s.size) : (Instr.slice 9 (.string s) (some (.int .i64 a)) (some (.int .i64 b)) none).run Try.prog W = .ok (.string (s.extract a.toNat b.toNat)) W := by
  have eh : (b.toNat : Int) = b := Int.toNat_of_nonneg (by omega)
  simp [Instr.slice, run_underlying Try.underlying9, Instr.sliceBounds, run_sliceBound, sliced, *, eh, (by omega : 0 ≤ b)]
theorem run_from (W : World) (s : ByteArray) (a : Int) (h0 : 0 ≤ a) (h1 : a ≤ s.size) : (Instr.slice 9 (.string s) (some (.int .i64 a)) none none).run Try.prog W = .ok (.string (s.extract a.toNat s.size)) W := run_slice_string_l W _ s Try.underlying9 _ _ h0 h1
theorem cut_bs {s x : ByteArray} {a b : Nat} (h : ((bs s).drop a).take (b - a) = bs x) : s.extract a b = x := bs_inj (by rw [bs_extract]; exact h)
theorem found_one {L : List ByteArray} {x : ByteArray} {S : List UInt8} (hL : Sorted L) (hm : ∀ y, y ∈ L ↔ y ∈ [x] ∧ Occ S (bs y)) (ho : Occ S (bs x)) : L = [x] :=
  sorted_ext hL (List.pairwise_singleton _ _) (fun y => by
    rw [hm y]
    constructor
    · exact fun h => h.1
    · intro h
      refine ⟨h, ?_⟩
      rw [List.mem_singleton] at h
      rw [h]
      exact ho)
theorem found_none {L : List ByteArray} {x : ByteArray} {S : List UInt8} (hm : ∀ y, y ∈ L ↔ y ∈ [x] ∧ Occ S (bs y)) (ho : ¬ Occ S (bs x)) : L = [] := by
  cases L with
  | nil => rfl
  | cons y l =>
    obtain ⟨h1, h2⟩ := (hm y).1 List.mem_cons_self
    rw [List.mem_singleton] at h1
    rw [h1] at h2
    exact absurd h2 ho
set_option maxRecDepth 100000 in
set_option maxHeartbeats 4000000 in
theorem swaps_true (w : World) (m : Int) (hm : w.cell? ⟨0, 0, none⟩ = some (.int .i64 m)) (x0 x1 x2 : ByteArray) (h0 : x0.size ≤ 1048576) (h1 : x1.size ≤ 1048576) (h2 : x2.size ≤ 1048576) :
    Calls Try.prog 5 #[.string x0, .string x1, .string x2] w fun e w' => e = .returned (.bool true) ∧ Below w.heap.size w w' := by
  have hz := mx_pos hm
  have HM := Aside0.mk hm
  have CA := Aside0.mk (awake_calls w m hm)
  have CR := Aside0.mk (fun (W : World) (hW : W.cell? ⟨0, 0, none⟩ = some (.int .i64 m)) => rewrite_calls W m x0 x1 x2 hW (by omega) (by omega) (by omega))
  by_cases hw : wanted2 x1 x2 = 0
  · obtain ⟨hf, ht⟩ := wanted_len hw
    have hpl := Pl_length hf _ (bs x0) 0 (Nat.le_refl _)
    have hol := R_length (t := bs x2) hf ht _ (bs x0) (Nat.le_refl _)
    have CR2 := Aside0.mk (fun (W : World) (hW : W.cell? ⟨0, 0, none⟩ = some (.int .i64 m)) => (CR.out W hW).mono (R' := fun e w' => Below W.heap.size W w' ∧ ∃ v', e = .returned (.tuple #[.string ⟨(R (bs x1) (bs x2) (bs x0)).toArray⟩, v', .int .i64 0]) ∧ Kd.R (Kd.int .i64) 3 w' W.heap.size (fun _ => True) v' (zs (Pl (bs x1) (bs x0) 0))) (fun e w' h => ⟨h.1, by
      rcases h.2 with h | h
      · exact absurd hw h.1
      · exact h.2⟩))
    have HOC := Aside0.mk (pl_occ hf (bs x0))
    have HMK := Aside0.mk (Mark.start (bs x1) (bs x2) (bs x0))
    obtain ⟨O, hO⟩ : ∃ O : ByteArray, (⟨(R (bs x1) (bs x2) (bs x0)).toArray⟩ : ByteArray) = O := ⟨_, rfl⟩
    have hbO : R (bs x1) (bs x2) (bs x0) = bs O := by rw [← hO]; exact (bs_mk _).symm
    obtain ⟨P, hP⟩ : ∃ P : List Nat, Pl (bs x1) (bs x0) 0 = P := ⟨_, rfl⟩
    have hosz : O.size = x0.size := by rw [hbO, ← size_bs, ← size_bs] at hol; exact hol
    have d0 : (((O.size : Nat) : Int) != ((x0.size : Nat) : Int)) = false := by rw [hosz]; simp
    rw [hP, ← size_bs] at hpl
    have HFT := Aside0.mk (And.intro hf ht)
    have hw1 : wantedL [x1] = 0 := by
      unfold wanted2 at hw
      unfold wantedL wantedL
      by_cases hh : hashNo (bs x1) = 0
      · rw [if_neg (fun k => k hh)]
      · rw [if_pos hh] at hw
        exact absurd hw hh
    have HW1 := Aside0.mk hw1
    simp only [hO, hP] at CR2 HOC
    simp only [hP] at HMK
    rw [hbO] at HMK
    have CN := Aside0.mk (fun (W : World) (g : Nat) (hq : SQ W g 1 [x1]) => (show Calls Try.prog 13 #[.slice (some ⟨g, 0, none⟩) 1 1] W (fun e w' => e = .returned (.tuple #[.pointer (some ⟨W.heap.size + 1, 0, none⟩), .int .i64 0]) ∧ Scn w' W.heap.size (W.heap.size + 1) [x1] [] ∧ Below W.heap.size W w') from
      scn_new W (some ⟨g, 0, none⟩) 1 [x1] hq.all (Nat.le_refl _) (fun h hh => by rw [List.mem_singleton] at hh; rw [hh]; omega) (by simp) hw1))
    clear hP hO hbO hw CR hm hf ht hw1 hol
    have hzl : (zs P).length = P.length := by unfold zs; rw [List.length_map]
    go_enter Try.func5, Try.ntmps5
    go_wp2_with (first
      | (go_at_call 9; ((with_reducible refine CA.out.mono ?_)); rintro e w1 ⟨rfl, hb⟩; have HB1 := Aside0.mk hb; clear hb)
      | (go_at_call 10; ((with_reducible refine (CR2.out w1 (mx_below HM.out HB1.out hz)).mono ?_)); rintro e w2 ⟨hb, v2, rfl, hr2⟩; have HB2 := Aside0.mk (HB1.out.trans (hb.mono HB1.out.size)); obtain ⟨A2, c2, rfl, hc2, hC2⟩ := Kd.R_reads hr2; rw [hzl] at hc2 hC2; have HC2 := Aside0.mk hC2; have HD2 := Aside0.mk hc2; clear hb hr2 hC2 hc2))
    go_loopg [10, 45] P.length (fun g v10 v45 wx => ∃ (i p : Nat), i + g = P.length ∧ v10 = .int .i64 (p : Int) ∧ v45 = .int .i64 (i : Int) ∧ Aside0 (Mark (bs x1) (bs x2) (bs x0) (bs O) P i p) ∧ Aside0 (Below w2.heap.size w2 wx))
    case atStart => exact ⟨0, 0, by omega, rfl, rfl, HMK, ⟨Below.refl _ _⟩⟩
    case round =>
      obtain ⟨i, p, hig, rfl, rfl, HK, HB⟩ := hrel
      cases gk with
      | succ g =>
        have hi : i < P.length := by omega
        obtain ⟨k1, k2, k3, k4, k5, k6⟩ := HK.out.next HFT.out.1 HFT.out.2 hi
        have p1 : 0 ≤ (i : Int) := by omega
        have p2 : (i : Int) < (P.length : Int) := by omega
        obtain ⟨ad, rfl, hl0⟩ := Kd.at_int (k := .i64) HC2.out (i : Int) p1 p2
        have ez : rdOf (0 : Int) (zs P) (i : Int) = (P[i] : Int) := by
          unfold zs rdOf
          rw [Int.toNat_natCast, List.getD_eq_getElem?_getD, List.getElem?_map, List.getElem?_eq_getElem hi]
          rfl
        replace hl0 : w2.cell? (ad.add i) = some (.int .i64 (P[i] : Int)) := by rw [← ez]; exact hl0
        replace hl0 := (Fr.of_below (S := fun _ => False) HB.out).cell hl0 (fun h => h)
        obtain ⟨q, hq⟩ : ∃ q, P[i] = q := ⟨_, rfl⟩
        rw [hq] at k1 k2 k3 k4 k5 k6 hl0
        clear ez hq
        rw [← size_bs] at k2
        have K6 := Aside0.mk k6
        obtain ⟨Y, hY⟩ : ∃ Y, x0.extract p q = Y := ⟨_, rfl⟩
        have hYO : O.extract p q = Y := by rw [← hY]; exact cut_bs (by rw [bs_extract]; exact k3.symm)
        have R1 := fun (W : World) => run_cut W x0 (p : Int) (q : Int) (by omega) (by omega) (by omega)
        have R2 := fun (W : World) => run_cut W O (p : Int) (q : Int) (by omega) (by omega) (by omega)
        have R3 := fun (W : World) => run_cut W x0 (q : Int) ((q : Int) + 32) (by omega) (by omega) (by omega)
        have R4 := fun (W : World) => run_cut W O (q : Int) ((q : Int) + 32) (by omega) (by omega) (by omega)
        have t1 : ((q : Int) + 32).toNat = q + 32 := by omega
        have g1 : x0.extract q (q + 32) = x1 := cut_bs (by rw [Nat.add_sub_cancel_left]; exact k4)
        have g2 : O.extract q (q + 32) = x2 := cut_bs (by rw [Nat.add_sub_cancel_left]; exact k5)
        simp only [Int.toNat_natCast, t1, hY, hYO, g1, g2] at R1 R2 R3 R4
        clear hY hYO t1 g1 g2 k3 k4 k5 k6
        have e1 : decide ((q : Int) < (p : Int)) = false := decide_eq_false (by omega)
        have e2 : ((q : Int) ≤ (x0.size : Int) - 32) = True := eq_true (by omega)
        have e3 : decide ((x0.size : Int) - 32 < (q : Int)) = false := decide_eq_false (by omega)
        have e4 : decide (q < p) = false := decide_eq_false (by omega)
        have u1 : IntKind.i64.wrap ((x0.size : Int) - 32) = (x0.size : Int) - 32 := IntWalk.i64_in _ (by omega)
        have u2 : IntKind.i64.wrap ((q : Int) + 32) = (q : Int) + 32 := IntWalk.i64_in _ (by clear u1; omega)
        go_wp2
        refine wp_region_still_lit (by kernel_rfl) (by kernel_rfl) ?_
        change wpStill _ _ (World.drew wr) _ _ _
        have HB8 := Aside0.mk (HB.out.trans ((below_drew (Below.refl _ wr)).mono HB.out.size))
        generalize hA_ : Act.mk _ _ = A_
        iterate 39 (refine wpStill_step (fun K hK => ?_); subst hA_; go_simp; generalize hA_ : Act.mk _ _ = A_; with_reducible refine hK _ ?_; clear hK K)
        refine wpStill_nil ?_
        subst hA_
        clear u1 u2
        go_wp2
        go_roundg g
        case measure => omega
        case rel => exact ⟨i + 1, q + 32, by omega, by go_num, by go_num, K6, HB8⟩
      | zero =>
        obtain rfl : i = P.length := by omega
        have hlast := HK.out.last HFT.out.1
        have hle := HK.out.le
        rw [← size_bs] at hle
        obtain ⟨Y, hY⟩ : ∃ Y, x0.extract p x0.size = Y := ⟨_, rfl⟩
        have hYO : O.extract p O.size = Y := by
          rw [← hY]
          refine cut_bs ?_
          rw [bs_extract, hosz, ← hlast]
        have R1 := fun (W : World) => run_from W x0 (p : Int) (by omega) (by omega)
        have R2 := fun (W : World) => run_from W O (p : Int) (by omega) (by omega)
        simp only [Int.toNat_natCast, hY, hYO] at R1 R2
        clear hY hYO hlast
        go_wp2
        refine wp_region_still_lit (by kernel_rfl) (by kernel_rfl) ?_
        change wpStill _ _ (World.drew wr) _ _ _
        have HB8 := Aside0.mk (HB2.out.trans ((HB.out.trans ((below_drew (Below.refl _ wr)).mono HB.out.size)).mono HB2.out.size))
        generalize hA_ : Act.mk _ _ = A_
        iterate 7 (refine wpStill_step (fun K hK => ?_); subst hA_; go_simp; generalize hA_ : Act.mk _ _ = A_; with_reducible refine hK _ ?_; clear hK K)
        refine wpStill_nil ?_
        subst hA_
        by_cases hP : 0 < P.length
        · have ho := HOC.out.1 hP
          have HO := Aside0.mk ho
          have d4 : decide ((0 : Int) < (P.length : Int)) = true := decide_eq_true (by omega)
          have d5 : decide (0 < P.length) = true := decide_eq_true hP
          clear ho
          go_wp2_with (first
            | (go_at_call 13; change Calls _ _ #[.slice (some ⟨(World.drew wr).heap.size, 0, none⟩) 1 1] ((World.drew wr).alloc (.cells #[.string x1] 9)) _; generalize World.drew wr = w8 at HB8 ⊢; have hba := below_alloc (Below.refl w8.heap.size w8) (.cells #[.string x1] 9); have hq : SQ (w8.alloc (.cells #[.string x1] 9)) w8.heap.size 1 [x1] := ⟨⟨_, World.alloc_heap_new w8 _, rfl, rfl⟩, Nat.le_refl _, by decide⟩; generalize w8.alloc (.cells #[.string x1] 9) = w9 at hba hq ⊢; have HB9 := Aside0.mk (HB8.out.trans (hba.mono HB8.out.size)); ((with_reducible refine (CN.out w9 _ hq).mono ?_)); rintro e w10 ⟨rfl, hs, hb⟩; have HS10 := Aside0.mk hs; have HB10 := Aside0.mk (HB9.out.trans (hb.mono HB9.out.size)); clear hs hb hba hq)
            | ((with_reducible refine gate_dst (N := 108) rfl ?_); refine wpList_conv rfl (N := 108) rfl (.tmp 107) rfl x0 rfl (by have : maxLen = 9223372036854775807 := rfl; omega) ?_; intro g2 c2 w11 _ hc2 hcl2 hg2 hb2; have HC2 := Aside0.mk hc2; have HCL := Aside0.mk hcl2; have HS11 := Aside0.mk (HS10.out.less hb2); have HB11 := Aside0.mk (HB10.out.trans (hb2.mono HB10.out.size)); have HNE := Aside0.mk (show g2 ≠ w9.heap.size + 1 from by have := HS10.out.lies.2; omega); clear hc2 hcl2 hg2 hb2)
            | (go_at_call 14; ((with_reducible refine (scn_feed w11 _ _ [x1] [] HS11.out g2 0 x0.size c2 (bs x0) (size_bs x0) HC2.out HCL.out HNE.out (by rw [← size_bs]; omega) (by decide)).mono ?_)); rintro e w12 ⟨rfl, hs, hb⟩; have HS12 := Aside0.mk hs; have HB12 := Aside0.mk (HB11.out.trans (hb.mono HB9.out.size)); clear hs hb)
            | (go_at_call 15; ((with_reducible refine (scn_found w12 _ _ _ _ HS12.out).mono ?_)); rintro e w13 ⟨v, L, rfl, hr, hb, hso, hm⟩; obtain rfl := found_one hso hm HO.out; obtain ⟨A3, c3, rfl, hc3, hC3⟩ := Kd.R_reads hr; have HB13 := Aside0.mk (HB12.out.trans (hb.mono HB12.out.size)); clear hr hb hso hm hc3 hC3))
          go_ret
          exact ⟨rfl, HB13.out⟩
        · have ho := fun h => hP (HOC.out.2 h)
          have HO := Aside0.mk ho
          have d4 : decide ((0 : Int) < (P.length : Int)) = false := decide_eq_false (by omega)
          have d5 : decide (0 < P.length) = false := decide_eq_false hP
          clear ho
          go_wp2_with (first
            | (go_at_call 13; change Calls _ _ #[.slice (some ⟨(World.drew wr).heap.size, 0, none⟩) 1 1] ((World.drew wr).alloc (.cells #[.string x1] 9)) _; generalize World.drew wr = w8 at HB8 ⊢; have hba := below_alloc (Below.refl w8.heap.size w8) (.cells #[.string x1] 9); have hq : SQ (w8.alloc (.cells #[.string x1] 9)) w8.heap.size 1 [x1] := ⟨⟨_, World.alloc_heap_new w8 _, rfl, rfl⟩, Nat.le_refl _, by decide⟩; generalize w8.alloc (.cells #[.string x1] 9) = w9 at hba hq ⊢; have HB9 := Aside0.mk (HB8.out.trans (hba.mono HB8.out.size)); ((with_reducible refine (CN.out w9 _ hq).mono ?_)); rintro e w10 ⟨rfl, hs, hb⟩; have HS10 := Aside0.mk hs; have HB10 := Aside0.mk (HB9.out.trans (hb.mono HB9.out.size)); clear hs hb hba hq)
            | ((with_reducible refine gate_dst (N := 108) rfl ?_); refine wpList_conv rfl (N := 108) rfl (.tmp 107) rfl x0 rfl (by have : maxLen = 9223372036854775807 := rfl; omega) ?_; intro g2 c2 w11 _ hc2 hcl2 hg2 hb2; have HC2 := Aside0.mk hc2; have HCL := Aside0.mk hcl2; have HS11 := Aside0.mk (HS10.out.less hb2); have HB11 := Aside0.mk (HB10.out.trans (hb2.mono HB10.out.size)); have HNE := Aside0.mk (show g2 ≠ w9.heap.size + 1 from by have := HS10.out.lies.2; omega); clear hc2 hcl2 hg2 hb2)
            | (go_at_call 14; ((with_reducible refine (scn_feed w11 _ _ [x1] [] HS11.out g2 0 x0.size c2 (bs x0) (size_bs x0) HC2.out HCL.out HNE.out (by rw [← size_bs]; omega) (by decide)).mono ?_)); rintro e w12 ⟨rfl, hs, hb⟩; have HS12 := Aside0.mk hs; have HB12 := Aside0.mk (HB11.out.trans (hb.mono HB9.out.size)); clear hs hb)
            | (go_at_call 15; ((with_reducible refine (scn_found w12 _ _ _ _ HS12.out).mono ?_)); rintro e w13 ⟨v, L, rfl, hr, hb, hso, hm⟩; obtain rfl := found_none hm HO.out; obtain ⟨A3, c3, rfl, hc3, hC3⟩ := Kd.R_reads hr; have HB13 := Aside0.mk (HB12.out.trans (hb.mono HB12.out.size)); clear hr hb hso hm hc3 hC3))
          go_ret
          exact ⟨rfl, HB13.out⟩
  · have CR2 := Aside0.mk (fun (W : World) (hW : W.cell? ⟨0, 0, none⟩ = some (.int .i64 m)) => (CR.out W hW).mono (R' := fun e w' => Below W.heap.size W w' ∧ e = .returned (.tuple #[.string ⟨#[]⟩, .slice none 0 0, .int .i64 131])) (fun e w' h => ⟨h.1, by
      rcases h.2 with h | h
      · have h131 : wanted2 x1 x2 = 131 := by
          unfold wanted2 at hw ⊢
          rcases hashNo_cases (bs x1) with h1 | h1
          · rw [if_neg (fun k => k h1)] at hw ⊢
            exact (hashNo_cases (bs x2)).resolve_left hw
          · rw [if_pos (by rw [h1]; decide)]
            exact h1
        rw [h131] at h
        exact h.2
      · exact absurd h.1 hw⟩))
    clear hw CR hm
    go_enter Try.func5, Try.ntmps5
    go_wp2_with (first
      | (go_at_call 9; ((with_reducible refine CA.out.mono ?_)); rintro e w1 ⟨rfl, hb⟩; have HB1 := Aside0.mk hb; clear hb)
      | (go_at_call 10; ((with_reducible refine (CR2.out w1 (mx_below HM.out HB1.out hz)).mono ?_)); rintro e w2 ⟨hb, rfl⟩; have HB2 := Aside0.mk (HB1.out.trans (hb.mono HB1.out.size)); clear hb))
    go_ret
    exact ⟨rfl, HB2.out⟩
end Go.Proofs.Ytbllmpfdhcbkpaa.Scan
/- The law ScanPlanted. -/
namespace Go.Proofs.Ytbllmpfdhcbkpaa.Scan
open Go.Shelf Go.RowKit Go.Proofs.Ytbllmpfdhcbkpaa.Q Go.Proofs.Ytbllmpfdhcbkpaa.SpathPure Go.Proofs.Ytbllmpfdhcbkpaa.Rise Go.Proofs.YtbllmpfdhcbkpaaW.PrintWords Go.Proofs.YtbllmpfdhcbkpaaW.PrintLast Go.Proofs.YtbllmpfdhcbkpaaW.PrintMore Go.Proofs.Ytbllmpfdhcbkpaa.Bytes
set_option linter.unusedVariables false
set_option linter.unusedSimpArgs false
def sHead : ByteArray := ⟨#[48, 49, 50, 51, 52, 53, 54, 55, 56, 57, 97, 98, 99, 100, 102, 103, 104, 105, 106, 107, 108, 109, 110, 112, 113, 114, 115, 118, 119, 120, 121]⟩
def sEHead : ByteArray := ⟨#[101, 48, 49, 50, 51, 52, 53, 54, 55, 56, 57, 97, 98, 99, 100, 102, 103, 104, 105, 106, 107, 108, 109, 110, 112, 113, 114, 115, 118, 119, 120, 121]⟩
theorem run_head (W : World) : (Instr.slice 9 (.string ⟨#[48, 49, 50, 51, 52, 53, 54, 55, 56, 57, 97, 98, 99, 100, 102, 103, 104, 105, 106, 107, 108, 109, 110, 112, 113, 114, 115, 118, 119, 120, 121, 122]⟩) none (some (.int .i64 31)) none).run Try.prog W = .ok (.string sHead) W := by
  rw [run_slice_string_h W 9 _ Try.underlying9 .i64 31 (by decide) (by decide)]
  rfl
theorem e_head : (⟨#[101]⟩ : ByteArray) ++ sHead = sEHead := rfl
theorem wanted_12 : wantedL [sOne, sTwo] = 0 := by
  unfold wantedL wantedL wantedL
  rw [if_neg (fun h => h one_ok), if_neg (fun h => h two_ok)]
theorem wanted_1 : wantedL [sOne] = 0 := by
  unfold wantedL wantedL
  rw [if_neg (fun h => h one_ok)]
theorem one_lt_two : Rise.Lt sOne sTwo := by
  unfold Rise.Lt
  rw [toList_bs, toList_bs]
  decide +kernel
theorem head_out : ∀ a, a < 63 → ((bs sHead ++ bs sEHead).drop a).take 32 ≠ bs sOne := by decide +kernel
theorem head_not : ¬ Occ (([] ++ bs sHead) ++ bs sEHead) (bs sOne) := fun ⟨a, e⟩ => by
  have hl := win_length (hash_len one_ok) e
  have hn : (([] ++ bs sHead) ++ bs sEHead).length = 63 := by decide +kernel
  exact head_out a (by omega) e
theorem planted {L : List ByteArray} {S : List UInt8} (hL : Sorted L) (hm : ∀ y, y ∈ L ↔ y ∈ [sOne, sTwo] ∧ Occ S (bs y)) (ho : Occ S (bs sOne)) : L.length - 1 ≤ 1 ∧ L[0]? = some sOne := by
  by_cases h2 : Occ S (bs sTwo)
  · have : L = [sOne, sTwo] := sorted_ext hL (List.pairwise_cons.2 ⟨fun y hy => by rw [List.mem_singleton] at hy; rw [hy]; exact one_lt_two, List.pairwise_singleton _ _⟩) (fun y => by
      rw [hm y]
      constructor
      · exact fun h => h.1
      · intro h
        refine ⟨h, ?_⟩
        simp only [List.mem_cons, List.not_mem_nil, or_false] at h
        rcases h with rfl | rfl
        · exact ho
        · exact h2)
    subst this
    exact ⟨by decide, rfl⟩
  · have : L = [sOne] := sorted_ext hL (List.pairwise_singleton _ _) (fun y => by
      rw [hm y]
      constructor
      · rintro ⟨h, k⟩
        simp only [List.mem_cons, List.not_mem_nil, or_false] at h
        rcases h with rfl | rfl
        · simp
        · exact absurd k h2
      · intro h
        rw [List.mem_singleton] at h
        subst h
        exact ⟨by simp, ho⟩)
    subst this
    exact ⟨by decide, rfl⟩
/-- New over a row of one's own, as the walk meets it. -/
theorem new_own (hs : List ByteArray) (n : Nat) (hn : n = hs.length) (hz : ∀ h ∈ hs, h.size ≤ 140737488351232) (hl : n ≤ 1048577) (hw : wantedL hs = 0) (W : World) (g : Nat) (hq : SQ W g n hs) :
    Calls Try.prog 13 #[.slice (some ⟨g, 0, none⟩) n n] W fun e w' => ∃ base b, W.heap.size ≤ base ∧ e = .returned (.tuple #[.pointer (some ⟨b, 0, none⟩), .int .i64 0]) ∧ Scn w' base b hs [] ∧ Below W.heap.size W w' := by
  subst hn
  refine (scn_new W (some ⟨g, 0, none⟩) hs.length hs hq.all (Nat.le_refl _) hz hl hw).mono ?_
  rintro e w' ⟨rfl, h, hb⟩
  exact ⟨_, _, Nat.le_refl _, rfl, h, hb⟩
set_option maxRecDepth 100000 in
set_option maxHeartbeats 8000000 in
theorem planted_true (w : World) (m : Int) (hm : w.cell? ⟨0, 0, none⟩ = some (.int .i64 m)) (x0 x1 : ByteArray) (A2 : Option Addr) (c2 : Nat) (xs2 : List Int) (hC2 : Kd.C (Kd.int .i64) w A2 xs2.length xs2) (hc2 : xs2.length ≤ c2) (h0 : x0.size ≤ 1048576) (h1 : x1.size ≤ 1048576) (hn2 : xs2.length ≤ 1048576) (hz2 : ∀ y ∈ xs2, (Lit.int .i64 y).wf = true) :
    Calls Try.prog 4 #[.string x0, .string x1, .slice A2 xs2.length c2] w fun e w' => e = .returned (.bool true) ∧ Below w.heap.size w w' := by
  have hz := mx_pos hm
  have CA := Aside0.mk (awake_calls w m hm)
  have HC2 := Aside0.mk hC2
  have HZ2 := Aside0.mk hz2
  have CN := Aside0.mk (new_own [sOne, sTwo] 2 rfl (fun h hh => by simp only [List.mem_cons, List.not_mem_nil, or_false] at hh; rcases hh with rfl | rfl <;> decide) (by decide) wanted_12)
  have CN1 := Aside0.mk (new_own [sOne] 1 rfl (fun h hh => by rw [List.mem_singleton] at hh; rw [hh]; decide) (by decide) wanted_1)
  obtain ⟨T, hT⟩ : ∃ T, x0 ++ sOne ++ x1 = T := ⟨_, rfl⟩
  have hbT : bs T = bs x0 ++ bs sOne ++ bs x1 := by rw [← hT, bs_append, bs_append]
  have hTs : T.size = x0.size + 32 + x1.size := by
    rw [size_bs, hbT, List.length_append, List.length_append, ← size_bs, ← size_bs, ← size_bs]
    rfl
  have HO := Aside0.mk (show Occ (bs T) (bs sOne) from ⟨x0.size, by
    rw [hbT, List.append_assoc, size_bs, List.drop_append_of_le_length (Nat.le_refl _), List.drop_length, List.nil_append, List.take_append_of_le_length (by decide)]
    decide +kernel⟩)
  have hcat1 : (9223372036854775807 < x0.size + 32) = False := eq_false (by omega)
  have hcat2 : (9223372036854775807 < x0.size + 32 + x1.size) = False := eq_false (by omega)
  have hsz : (x0 ++ sOne).size = x0.size + 32 := by rw [ByteArray.size_append]; rfl
  have hmx : maxLen = 9223372036854775807 := rfl
  have hX : T.size ≤ maxLen := by omega
  have HX := Aside0.mk hX
  have hTb : T.size ≤ 2097184 := by omega
  unfold sOne at hT hsz
  clear hm hC2 hz2 hX hmx hbT hTs
  go_enter Try.func4, Try.ntmps4
  go_wp2_with (first
    | (go_at_call 9; ((with_reducible refine CA.out.mono ?_)); rintro e w1 ⟨rfl, hb⟩; have HB1 := Aside0.mk hb; clear hb)
    | (go_at_call 13; change Calls _ _ _ (w1.alloc (.cells #[.string sOne, .string sTwo] 9)) _; have hba := below_alloc (Below.refl w1.heap.size w1) (.cells #[.string sOne, .string sTwo] 9); have hq : SQ (w1.alloc (.cells #[.string sOne, .string sTwo] 9)) w1.heap.size 2 [sOne, sTwo] := ⟨⟨_, World.alloc_heap_new w1 _, rfl, rfl⟩, Nat.le_refl _, by decide⟩; generalize w1.alloc (.cells #[.string sOne, .string sTwo] 9) = w2 at hba hq ⊢; have HB2 := Aside0.mk (HB1.out.trans (hba.mono HB1.out.size)); ((with_reducible refine (CN.out w2 _ hq).mono ?_)); rintro e w3 ⟨bs3, b3, hle, rfl, hs, hb⟩; have HLE := Aside0.mk (Nat.le_trans HB2.out.size hle); have HS3 := Aside0.mk hs; have HB3 := Aside0.mk (HB2.out.trans (hb.mono HB2.out.size)); clear hs hb hba hq hle))
  have HS0 := Aside0.mk (show Scn w3 bs3 b3 [sOne, sTwo] ((bs T).take 0) from HS3.out)
  clear hT hsz hcat1 hcat2
  go_loopg [10, 35] xs2.length (fun g v10 v35 wx => ∃ (i a : Nat), i + g = xs2.length ∧ a ≤ T.size ∧ v10 = .int .i64 (a : Int) ∧ v35 = .int .i64 (i : Int) ∧ Aside0 (Scn wx bs3 b3 [sOne, sTwo] ((bs T).take a)) ∧ Aside0 (Below w.heap.size w wx))
  case atStart => exact ⟨0, 0, by omega, Nat.zero_le _, rfl, rfl, HS0, HB3⟩
  case round =>
    obtain ⟨i, a, hig, ha, rfl, rfl, HS, HB⟩ := hrel
    cases gk with
    | succ g =>
      have hi : i < xs2.length := by omega
      have p1 : 0 ≤ (i : Int) := by omega
      have p2 : (i : Int) < (xs2.length : Int) := by omega
      obtain ⟨ad, rfl, hl0⟩ := Kd.at_int (k := .i64) HC2.out (i : Int) p1 p2
      have hyw := HZ2.out xs2[i] (List.getElem_mem hi)
      have ez : rdOf (0 : Int) xs2 (i : Int) = xs2[i] := by
        unfold rdOf
        rw [Int.toNat_natCast, List.getD_eq_getElem?_getD, List.getElem?_eq_getElem hi]
        rfl
      replace hl0 : w.cell? (ad.add i) = some (.int .i64 xs2[i]) := by rw [← ez]; exact hl0
      replace hl0 := (Fr.of_below (S := fun _ => False) HB.out).cell hl0 (fun h => h)
      obtain ⟨y, hy⟩ : ∃ y, xs2[i] = y := ⟨_, rfl⟩
      rw [hy] at hl0 hyw
      clear ez hy
      by_cases q1 : y < 0
      · have d1 : decide (y < 0) = true := decide_eq_true q1
        obtain ⟨Y, hY⟩ : ∃ Y, T.extract a (a + (T.size - a)) = Y := ⟨_, rfl⟩
        have hbY : (bs T).take a ++ bs Y = (bs T).take (a + (T.size - a)) := by rw [← hY, bs_extract, Nat.add_sub_cancel_left, List.take_add]
        have hYs : Y.size ≤ T.size := by rw [← hY, ByteArray.size_extract]; omega
        have hYm : Y.size ≤ maxLen := by have : maxLen = 9223372036854775807 := rfl; omega
        have R1 := fun (W : World) => run_cut W T (a : Int) ((a : Int) + ((T.size : Int) - (a : Int))) (by omega) (by omega) (by omega)
        have t1 : ((a : Int) + ((T.size : Int) - (a : Int))).toNat = a + (T.size - a) := by omega
        simp only [Int.toNat_natCast, t1, hY] at R1
        have HYS := Aside0.mk hYs
        have HYM := Aside0.mk hYm
        have HBY := Aside0.mk hbY
        clear t1 hY hYs hYm hbY
        go_wp2_with (first
          | ((with_reducible refine gate_dst (N := 60) rfl ?_); refine wpList_conv rfl (N := 60) rfl (.tmp 59) rfl Y rfl HYM.out ?_; intro g4 c4 w4 _ hc4 hcl4 hg4 hb4; have HC4 := Aside0.mk hc4; have HCL := Aside0.mk hcl4; have HS4 := Aside0.mk (HS.out.less hb4); have HB4 := Aside0.mk (HB.out.trans (hb4.mono HB.out.size)); have HNE := Aside0.mk (show g4 ≠ b3 from by have := HS.out.lies.2; omega); clear hc4 hcl4 hg4 hb4)
          | (go_at_call 14; ((with_reducible refine (scn_feed w4 _ _ [sOne, sTwo] ((bs T).take a) HS4.out g4 0 Y.size c4 (bs Y) (size_bs Y) HC4.out HCL.out HNE.out (by rw [← size_bs]; have := HYS.out; omega) (by rw [List.length_take]; omega)).mono ?_)); rintro e w5 ⟨rfl, hs, hb⟩; rw [HBY.out] at hs; have HS5 := Aside0.mk hs; have HB5 := Aside0.mk (HB4.out.trans (hb.mono HLE.out)); clear hs hb))
        go_roundg g
        case measure => omega
        case rel => exact ⟨i + 1, a + (T.size - a), by omega, by omega, by go_num, by go_num, HS5, HB5⟩
      · have d1 : decide (y < 0) = false := decide_eq_false q1
        by_cases q2 : (T.size : Int) - (a : Int) < y
        · have d2 : decide ((T.size : Int) - (a : Int) < y) = true := decide_eq_true q2
          obtain ⟨Y, hY⟩ : ∃ Y, T.extract a (a + (T.size - a)) = Y := ⟨_, rfl⟩
          have hbY : (bs T).take a ++ bs Y = (bs T).take (a + (T.size - a)) := by rw [← hY, bs_extract, Nat.add_sub_cancel_left, List.take_add]
          have hYs : Y.size ≤ T.size := by rw [← hY, ByteArray.size_extract]; omega
          have hYm : Y.size ≤ maxLen := by have : maxLen = 9223372036854775807 := rfl; omega
          have R1 := fun (W : World) => run_cut W T (a : Int) ((a : Int) + ((T.size : Int) - (a : Int))) (by omega) (by omega) (by omega)
          have t1 : ((a : Int) + ((T.size : Int) - (a : Int))).toNat = a + (T.size - a) := by omega
          simp only [Int.toNat_natCast, t1, hY] at R1
          have HYS := Aside0.mk hYs
          have HYM := Aside0.mk hYm
          have HBY := Aside0.mk hbY
          clear t1 hY hYs hYm hbY
          go_wp2_with (first
            | ((with_reducible refine gate_dst (N := 60) rfl ?_); refine wpList_conv rfl (N := 60) rfl (.tmp 59) rfl Y rfl HYM.out ?_; intro g4 c4 w4 _ hc4 hcl4 hg4 hb4; have HC4 := Aside0.mk hc4; have HCL := Aside0.mk hcl4; have HS4 := Aside0.mk (HS.out.less hb4); have HB4 := Aside0.mk (HB.out.trans (hb4.mono HB.out.size)); have HNE := Aside0.mk (show g4 ≠ b3 from by have := HS.out.lies.2; omega); clear hc4 hcl4 hg4 hb4)
            | (go_at_call 14; ((with_reducible refine (scn_feed w4 _ _ [sOne, sTwo] ((bs T).take a) HS4.out g4 0 Y.size c4 (bs Y) (size_bs Y) HC4.out HCL.out HNE.out (by rw [← size_bs]; have := HYS.out; omega) (by rw [List.length_take]; omega)).mono ?_)); rintro e w5 ⟨rfl, hs, hb⟩; rw [HBY.out] at hs; have HS5 := Aside0.mk hs; have HB5 := Aside0.mk (HB4.out.trans (hb.mono HLE.out)); clear hs hb))
          go_roundg g
          case measure => omega
          case rel => exact ⟨i + 1, a + (T.size - a), by omega, by omega, by go_num, by go_num, HS5, HB5⟩
        · have d2 : decide ((T.size : Int) - (a : Int) < y) = false := decide_eq_false q2
          obtain ⟨n, rfl⟩ : ∃ n : Nat, y = (n : Int) := ⟨y.toNat, by omega⟩
          obtain ⟨Y, hY⟩ : ∃ Y, T.extract a (a + n) = Y := ⟨_, rfl⟩
          have hbY : (bs T).take a ++ bs Y = (bs T).take (a + n) := by rw [← hY, bs_extract, Nat.add_sub_cancel_left, List.take_add]
          have hYs : Y.size ≤ T.size := by rw [← hY, ByteArray.size_extract]; omega
          have hYm : Y.size ≤ maxLen := by have : maxLen = 9223372036854775807 := rfl; omega
          have R1 := fun (W : World) => run_cut W T (a : Int) ((a : Int) + ((n : Int))) (by omega) (by omega) (by omega)
          have t1 : ((a : Int) + ((n : Int))).toNat = a + n := by omega
          simp only [Int.toNat_natCast, t1, hY] at R1
          have HYS := Aside0.mk hYs
          have HYM := Aside0.mk hYm
          have HBY := Aside0.mk hbY
          clear t1 hY hYs hYm hbY
          go_wp2_with (first
            | ((with_reducible refine gate_dst (N := 60) rfl ?_); refine wpList_conv rfl (N := 60) rfl (.tmp 59) rfl Y rfl HYM.out ?_; intro g4 c4 w4 _ hc4 hcl4 hg4 hb4; have HC4 := Aside0.mk hc4; have HCL := Aside0.mk hcl4; have HS4 := Aside0.mk (HS.out.less hb4); have HB4 := Aside0.mk (HB.out.trans (hb4.mono HB.out.size)); have HNE := Aside0.mk (show g4 ≠ b3 from by have := HS.out.lies.2; omega); clear hc4 hcl4 hg4 hb4)
            | (go_at_call 14; ((with_reducible refine (scn_feed w4 _ _ [sOne, sTwo] ((bs T).take a) HS4.out g4 0 Y.size c4 (bs Y) (size_bs Y) HC4.out HCL.out HNE.out (by rw [← size_bs]; have := HYS.out; omega) (by rw [List.length_take]; omega)).mono ?_)); rintro e w5 ⟨rfl, hs, hb⟩; rw [HBY.out] at hs; have HS5 := Aside0.mk hs; have HB5 := Aside0.mk (HB4.out.trans (hb.mono HLE.out)); clear hs hb))
          go_roundg g
          case measure => omega
          case rel => exact ⟨i + 1, a + n, by omega, by omega, by go_num, by go_num, HS5, HB5⟩
    | zero =>
      obtain rfl : i = xs2.length := by omega
      have R1 := fun (W : World) => run_from W T (a : Int) (by omega) (by omega)
      obtain ⟨Y, hY⟩ : ∃ Y, T.extract a T.size = Y := ⟨_, rfl⟩
      have hbY : (bs T).take a ++ bs Y = bs T := by rw [← hY, bs_extract, List.take_of_length_le (l := (bs T).drop a) (by rw [List.length_drop, ← size_bs]; omega), List.take_append_drop]
      have hYs : Y.size ≤ T.size := by rw [← hY, ByteArray.size_extract]; omega
      have hYm : Y.size ≤ maxLen := by have : maxLen = 9223372036854775807 := rfl; omega
      simp only [Int.toNat_natCast, hY] at R1
      have HYS := Aside0.mk hYs
      have HYM := Aside0.mk hYm
      have HBY := Aside0.mk hbY
      clear hY hYs hYm hbY
      go_wp2_with (first
        | ((with_reducible refine gate_dst (N := 70) rfl ?_); refine wpList_conv rfl (N := 70) rfl (.tmp 69) rfl Y rfl HYM.out ?_; intro g4 c4 w4 _ hc4 hcl4 hg4 hb4; have HC4 := Aside0.mk hc4; have HCL := Aside0.mk hcl4; have HS4 := Aside0.mk (HS.out.less hb4); have HB4 := Aside0.mk (HB.out.trans (hb4.mono HB.out.size)); have HNE := Aside0.mk (show g4 ≠ b3 from by have := HS.out.lies.2; omega); clear hc4 hcl4 hg4 hb4)
        | (go_at_call 14; ((with_reducible refine (scn_feed w4 _ _ [sOne, sTwo] ((bs T).take a) HS4.out g4 0 Y.size c4 (bs Y) (size_bs Y) HC4.out HCL.out HNE.out (by rw [← size_bs]; have := HYS.out; omega) (by rw [List.length_take]; omega)).mono ?_)); rintro e w5 ⟨rfl, hs, hb⟩; rw [HBY.out] at hs; have HS5 := Aside0.mk hs; have HB5 := Aside0.mk (HB4.out.trans (hb.mono HLE.out)); clear hs hb))
      refine (scn_found w5 _ _ _ _ HS5.out).mono ?_
      rintro e w6 ⟨v6, L, rfl, hr6, hb6, hso, hmem⟩
      obtain ⟨l1, l2⟩ := planted hso hmem HO.out
      obtain ⟨A6, c6, rfl, hc6, hC6⟩ := Kd.R_reads hr6
      obtain ⟨n, hn⟩ : ∃ n, L.length = n := ⟨_, rfl⟩
      have l0 : 0 < L.length := (List.getElem?_eq_some_iff.1 l2).1
      obtain ⟨ad6, rfl, hl6⟩ := Kd.at_string hC6 (0 : Int) (by decide) (by omega)
      have hr0 : rdOf ByteArray.empty L (0 : Int) = sOne := by
        unfold rdOf
        rw [show (0 : Int).toNat = 0 from rfl, List.getD_eq_getElem?_getD, l2]
        rfl
      replace hl6 : w6.cell? ad6 = some (.string sOne) := by have := hl6; rwa [show (0 : Int).toNat = 0 from rfl, Addr.add_zero', hr0] at this
      have HB6 := Aside0.mk (HB5.out.trans (hb6.mono HB5.out.size))
      rw [hn] at l0 l1 ⊢
      have d1 : decide ((n : Int) < 1) = false := decide_eq_false (by omega)
      have d2 : decide (n < 1) = false := decide_eq_false (by omega)
      have d3 : decide ((2 : Int) < (n : Int)) = false := decide_eq_false (by omega)
      have d4 : decide (2 < n) = false := decide_eq_false (by omega)
      have d5 : (n = 0) = False := eq_false (by omega)
      have d6 : (0 < n) = True := eq_true (by omega)
      have rh := run_head
      have eh := e_head
      have H7 : sHead.size ≤ maxLen := by decide
      have H8 : sEHead.size ≤ maxLen := by decide
      have H7 := Aside0.mk H7
      have H8 := Aside0.mk H8
      unfold sOne at hl6
      clear hr6 hb6 hso hmem hC6 hc6 hr0 l2 hn
      go_wp2_with (first
        | (go_at_call 13; change Calls _ _ _ (w6.alloc (.cells #[.string sOne] 9)) _; have hba := below_alloc (Below.refl w6.heap.size w6) (.cells #[.string sOne] 9); have hq : SQ (w6.alloc (.cells #[.string sOne] 9)) w6.heap.size 1 [sOne] := ⟨⟨_, World.alloc_heap_new w6 _, rfl, rfl⟩, Nat.le_refl _, by decide⟩; generalize w6.alloc (.cells #[.string sOne] 9) = w7 at hba hq ⊢; have HB7 := Aside0.mk (HB6.out.trans (hba.mono HB6.out.size)); ((with_reducible refine (CN1.out w7 _ hq).mono ?_)); rintro e w8 ⟨bs8, b8, hle, rfl, hs, hb⟩; have HLE8 := Aside0.mk (Nat.le_trans HB7.out.size hle); have HS8 := Aside0.mk hs; have HB8 := Aside0.mk (HB7.out.trans (hb.mono HB7.out.size)); clear hs hb hba hq hle)
        | ((with_reducible refine gate_dst (N := 101) rfl ?_); refine wpList_conv rfl (N := 101) rfl (.tmp 100) rfl sHead rfl H7.out ?_; intro g9 c9 w9 _ hc9 hcl9 hg9 hb9; have HC9 := Aside0.mk hc9; have HCL9 := Aside0.mk hcl9; have HS9 := Aside0.mk (HS8.out.less hb9); have HB9 := Aside0.mk (HB8.out.trans (hb9.mono HB8.out.size)); have HNE9 := Aside0.mk (show g9 ≠ b8 from by have := HS8.out.lies.2; omega); clear hc9 hcl9 hg9 hb9)
        | ((with_reducible refine gate_dst (N := 106) rfl ?_); refine wpList_conv rfl (N := 106) rfl (.tmp 105) rfl sEHead rfl H8.out ?_; intro g11 c11 w11 _ hc11 hcl11 hg11 hb11; have HC11 := Aside0.mk hc11; have HCL11 := Aside0.mk hcl11; have HS11 := Aside0.mk (HS10.out.less hb11); have HB11 := Aside0.mk (HB10.out.trans (hb11.mono HB10.out.size)); have HNE11 := Aside0.mk (show g11 ≠ b8 from by have := HS10.out.lies.2; omega); clear hc11 hcl11 hg11 hb11)
        | (go_at_call 14; first | ((with_reducible refine (scn_feed w9 _ _ [sOne] [] HS9.out g9 0 sHead.size c9 (bs sHead) (size_bs sHead) HC9.out HCL9.out HNE9.out (by decide) (by decide)).mono ?_); rintro e w10 ⟨rfl, hs, hb⟩; have HS10 := Aside0.mk hs; have HB10 := Aside0.mk (HB9.out.trans (hb.mono HLE8.out)); clear hs hb) | ((with_reducible refine (scn_feed w11 _ _ [sOne] _ HS11.out g11 0 sEHead.size c11 (bs sEHead) (size_bs sEHead) HC11.out HCL11.out HNE11.out (by decide) (by decide)).mono ?_); rintro e w12 ⟨rfl, hs, hb⟩; have HS12 := Aside0.mk hs; have HB12 := Aside0.mk (HB11.out.trans (hb.mono HLE8.out)); clear hs hb))
        | (go_at_call 15; ((with_reducible refine (scn_found w12 _ _ _ _ HS12.out).mono ?_)); rintro e w13 ⟨v, L, rfl, hr, hb, hso, hm⟩; obtain rfl := found_none hm head_not; obtain ⟨A3, c3, rfl, hc3, hC3⟩ := Kd.R_reads hr; have HB13 := Aside0.mk (HB12.out.trans (hb.mono HB12.out.size)); clear hr hb hso hm hc3 hC3))
      go_ret
      exact ⟨rfl, HB13.out⟩
end Go.Proofs.Ytbllmpfdhcbkpaa.Scan
/- The law ScanStreams. -/
namespace Go.Proofs.Ytbllmpfdhcbkpaa.Scan
open Go.Shelf Go.RowKit Go.Proofs.Ytbllmpfdhcbkpaa.Q Go.Proofs.Ytbllmpfdhcbkpaa.SpathPure Go.Proofs.Ytbllmpfdhcbkpaa.Rise Go.Proofs.YtbllmpfdhcbkpaaW.PrintWords Go.Proofs.YtbllmpfdhcbkpaaW.PrintLast Go.Proofs.YtbllmpfdhcbkpaaW.PrintMore Go.Proofs.Ytbllmpfdhcbkpaa.Bytes
set_option linter.unusedVariables false
set_option linter.unusedSimpArgs false
theorem no_no : (⟨#[]⟩ : ByteArray) ++ ⟨#[]⟩ = ⟨#[]⟩ := rfl
set_option maxRecDepth 100000 in
set_option maxHeartbeats 8000000 in
theorem streams_true (w : World) (m : Int) (hm : w.cell? ⟨0, 0, none⟩ = some (.int .i64 m)) (x0 x1 : ByteArray) (A2 : Option Addr) (c2 : Nat) (xs2 : List Int) (hC2 : Kd.C (Kd.int .i64) w A2 xs2.length xs2) (hc2 : xs2.length ≤ c2) (h0 : x0.size ≤ 1048576) (h1 : x1.size ≤ 1048576) (hn2 : xs2.length ≤ 1048576) (hz2 : ∀ y ∈ xs2, (Lit.int .i64 y).wf = true) :
    Calls Try.prog 8 #[.string x0, .string x1, .slice A2 xs2.length c2] w fun e w' => e = .returned (.bool true) ∧ Below w.heap.size w w' := by
  have hz := mx_pos hm
  have HM := Aside0.mk hm
  have CA := Aside0.mk (awake_calls w m hm)
  have HX2 := Aside0.mk hC2
  have HZ2 := Aside0.mk hz2
  have CR := Aside0.mk (fun (W : World) (hW : W.cell? ⟨0, 0, none⟩ = some (.int .i64 m)) => rewrite_calls W m x0 x1 sTwo hW (by omega) (by omega) (by decide))
  have CN := Aside0.mk (fun (W : World) => newRw_calls W x1 sTwo (by omega) (by decide))
  by_cases hw : wanted2 x1 sTwo = 0
  · obtain ⟨hf, ht⟩ := wanted_len hw
    have hpl := Pl_length hf _ (bs x0) 0 (Nat.le_refl _)
    have CR2 := Aside0.mk (fun (W : World) (hW : W.cell? ⟨0, 0, none⟩ = some (.int .i64 m)) => (CR.out W hW).mono (R' := fun e w' => Below W.heap.size W w' ∧ ∃ v', e = .returned (.tuple #[.string ⟨(R (bs x1) (bs sTwo) (bs x0)).toArray⟩, v', .int .i64 0]) ∧ Kd.R (Kd.int .i64) 3 w' W.heap.size (fun _ => True) v' (zs (Pl (bs x1) (bs x0) 0))) (fun e w' h => ⟨h.1, by
      rcases h.2 with h | h
      · exact absurd hw h.1
      · exact h.2⟩))
    have CN2 := Aside0.mk (fun (W : World) => rwr_new W x1 sTwo (by omega) (by decide) hw)
    obtain ⟨O, hO⟩ : ∃ O : ByteArray, (⟨(R (bs x1) (bs sTwo) (bs x0)).toArray⟩ : ByteArray) = O := ⟨_, rfl⟩
    have hbO : R (bs x1) (bs sTwo) (bs x0) = bs O := by rw [← hO]; exact (bs_mk _).symm
    obtain ⟨P, hP⟩ : ∃ P : List Int, zs (Pl (bs x1) (bs x0) 0) = P := ⟨_, rfl⟩
    have hPl : P.length ≤ 1099511627776 := by rw [← size_bs] at hpl; rw [← hP]; unfold zs; rw [List.length_map]; omega
    obtain ⟨k2, hk2⟩ := ints_same P hPl
    have HK2 := Aside0.mk (hk2 k2 (Nat.le_refl _))
    have HFT := Aside0.mk (And.intro hf ht)
    have HPP := Aside0.mk hP
    have HBO := Aside0.mk hbO
    simp only [hO, hP] at CR2
    have nn := no_no
    unfold sTwo at CR2 CN2
    have CN2 : Aside0 (∀ (W : World), Calls Try.prog 16 #[.string x1, .string ⟨#[49, 49, 49, 49, 49, 49, 49, 49, 49, 49, 49, 49, 49, 49, 49, 49, 49, 49, 49, 49, 49, 49, 49, 49, 49, 49, 49, 49, 49, 49, 49, 49]⟩] W (fun e w' => ∃ b, e = .returned (.tuple #[.pointer (some ⟨b, 0, none⟩), .int .i64 0]) ∧ Rwr w' W.heap.size b x1 sTwo [] [] ∧ Below W.heap.size W w')) := CN2
    clear hP hO hbO hw CR CN hm hf ht hPl hpl hk2 hC2 hz2
    go_enter Try.func8, Try.ntmps8
    go_wp2_with (first
      | (go_at_call 9; ((with_reducible refine CA.out.mono ?_)); rintro e w1 ⟨rfl, hb⟩; have HB1 := Aside0.mk hb; clear hb)
      | (go_at_call 10; ((with_reducible refine (CR2.out w1 (mx_below HM.out HB1.out hz)).mono ?_)); rintro e w2 ⟨hb, v2, rfl, hr2⟩; have HB2 := Aside0.mk (HB1.out.trans (hb.mono HB1.out.size)); obtain ⟨A3, c3, rfl, hc3, hC3⟩ := Kd.R_reads hr2; have HC3 := Aside0.mk hC3; have HD3 := Aside0.mk hc3; clear hb hr2 hC3 hc3)
      | (go_at_call 16; ((with_reducible refine (CN2.out w2).mono ?_)); rintro e w3 ⟨b3, rfl, hs, hb⟩; have HS3 := Aside0.mk hs; have HB3 := Aside0.mk hb; have HZ := Aside0.mk (Nat.lt_of_lt_of_le hz HB2.out.size); clear hb hs))
    have HS0 := Aside0.mk (show Rwr w3 w2.heap.size b3 x1 sTwo ((bs x0).take 0) (bs ⟨#[]⟩) from HS3.out)
    go_loopg [12, 13, 52] xs2.length (fun g v12 v13 v52 wx => ∃ (i a : Nat) (out : ByteArray), i + g = xs2.length ∧ a ≤ x0.size ∧ v12 = .string out ∧ v13 = .int .i64 (a : Int) ∧ v52 = .int .i64 (i : Int) ∧ Aside0 (Rwr wx w2.heap.size b3 x1 sTwo ((bs x0).take a) (bs out)) ∧ Aside0 (Below w2.heap.size w2 wx))
    case atStart => exact ⟨0, 0, ⟨#[]⟩, by omega, Nat.zero_le _, rfl, rfl, rfl, HS0, HB3⟩
    case round =>
      obtain ⟨i, a, out, hig, ha, rfl, rfl, rfl, HS, HB⟩ := hrel
      cases gk with
      | succ g =>
        have hi : i < xs2.length := by omega
        have p1 : 0 ≤ (i : Int) := by omega
        have p2 : (i : Int) < (xs2.length : Int) := by omega
        obtain ⟨ad, rfl, hl0⟩ := Kd.at_int (k := .i64) HX2.out (i : Int) p1 p2
        have hyw := HZ2.out xs2[i] (List.getElem_mem hi)
        have ez : rdOf (0 : Int) xs2 (i : Int) = xs2[i] := by
          unfold rdOf
          rw [Int.toNat_natCast, List.getD_eq_getElem?_getD, List.getElem?_eq_getElem hi]
          rfl
        replace hl0 : w.cell? (ad.add i) = some (.int .i64 xs2[i]) := by rw [← ez]; exact hl0
        replace hl0 := (Fr.of_below (S := fun _ => False) (HB2.out.trans (HB.out.mono HB2.out.size))).cell hl0 (fun h => h)
        obtain ⟨y, hy⟩ : ∃ y, xs2[i] = y := ⟨_, rfl⟩
        rw [hy] at hl0 hyw
        clear ez hy
        by_cases q1 : y < 0
        · have d1 : decide (y < 0) = true := decide_eq_true q1
          obtain ⟨Y, hY⟩ : ∃ Y, x0.extract a (a + (x0.size - a)) = Y := ⟨_, rfl⟩
          have hbY : (bs x0).take a ++ bs Y = (bs x0).take (a + (x0.size - a)) := by rw [← hY, bs_extract, Nat.add_sub_cancel_left, List.take_add]
          have hYs : Y.size ≤ x0.size := by rw [← hY, ByteArray.size_extract]; omega
          have hYm : Y.size ≤ maxLen := by have : maxLen = 9223372036854775807 := rfl; omega
          have R1 := fun (W : World) => run_cut W x0 (a : Int) ((a : Int) + ((x0.size : Int) - (a : Int))) (by omega) (by omega) (by omega)
          have t1 : ((a : Int) + ((x0.size : Int) - (a : Int))).toNat = a + (x0.size - a) := by omega
          simp only [Int.toNat_natCast, t1, hY] at R1
          have HLT := Aside0.mk (show ((bs x0).take (a + (x0.size - a))).length = a + (x0.size - a) by rw [List.length_take, ← size_bs]; omega)
          have HTI := Aside0.mk (show (((a + (x0.size - a) : Nat) : Int)) = (a : Int) + ((x0.size : Int) - (a : Int)) by omega)
          have HYS := Aside0.mk hYs
          have HYM := Aside0.mk hYm
          have HBY := Aside0.mk hbY
          clear t1 hY hYs hYm hbY
          go_wp2_with (first
            | ((with_reducible refine gate_dst (N := 78) rfl ?_); refine wpList_conv rfl (N := 78) rfl (.tmp 77) rfl Y rfl HYM.out ?_; intro g4 c4 w4 _ hc4 hcl4 hg4 hb4; have HC4 := Aside0.mk hc4; have HCL := Aside0.mk hcl4; have HS4 := Aside0.mk (HS.out.less hb4); have HB4 := Aside0.mk (HB.out.trans (hb4.mono HB.out.size)); have HNE := Aside0.mk (show g4 ≠ b3 from by have := HS.out.lies.2; omega); clear hc4 hcl4 hg4 hb4)
            | (go_at_call 17; ((with_reducible refine (rwr_feed w4 w2.heap.size b3 m x1 sTwo _ _ HS4.out HZ.out (mx_below HM.out (HB2.out.trans (HB4.out.mono HB2.out.size)) hz) HFT.out.1 HFT.out.2 g4 0 Y.size c4 (bs Y) (size_bs Y) HC4.out HCL.out HNE.out (by rw [← size_bs]; have := HYS.out; omega) (by rw [List.length_take]; omega)).mono ?_)); rintro e w5 ⟨O5, rfl, hs, hb⟩; rw [HBY.out, ← bs_append] at hs; have hlt := hs.told; rw [HLT.out, ← size_bs, ByteArray.size_append] at hlt; have hcat : (9223372036854775807 < out.size + O5.size) = False := eq_false (by omega); have dd1 : decide ((a : Int) + ((x0.size : Int) - (a : Int)) < (out.size : Int) + (O5.size : Int)) = false := decide_eq_false (by omega); have dd2 : decide ((a : Int) + ((x0.size : Int) - (a : Int)) < ((out.size + O5.size : Nat) : Int)) = false := decide_eq_false (by omega); have dd3 : decide ((a : Int) + ((x0.size : Int) - (a : Int)) < (((out ++ O5).size : Nat) : Int)) = false := decide_eq_false (by rw [ByteArray.size_append]; omega); have HS5 := Aside0.mk hs; have HB5 := Aside0.mk (HB4.out.trans hb); clear hs hb hlt)
            | (go_at_call 22; have CT := ((rwr_taken w5 _ b3 _ _ _ _ HS5.out).mono (R' := fun e w' => e = .returned (.int .i64 ((a : Int) + ((x0.size : Int) - (a : Int)))) ∧ w' = w5) (fun e w' h => ⟨by rw [h.1, HLT.out, HTI.out], h.2⟩)); ((with_reducible refine CT.mono ?_)); rintro e w6 ⟨rfl, rfl⟩; clear CT))
          go_roundg g
          case measure => omega
          case rel => exact ⟨i + 1, a + (x0.size - a), out ++ O5, by omega, by omega, rfl, by go_num, by go_num, HS5, HB5⟩
        · have d1 : decide (y < 0) = false := decide_eq_false q1
          by_cases q2 : (x0.size : Int) - (a : Int) < y
          · have d2 : decide ((x0.size : Int) - (a : Int) < y) = true := decide_eq_true q2
            obtain ⟨Y, hY⟩ : ∃ Y, x0.extract a (a + (x0.size - a)) = Y := ⟨_, rfl⟩
            have hbY : (bs x0).take a ++ bs Y = (bs x0).take (a + (x0.size - a)) := by rw [← hY, bs_extract, Nat.add_sub_cancel_left, List.take_add]
            have hYs : Y.size ≤ x0.size := by rw [← hY, ByteArray.size_extract]; omega
            have hYm : Y.size ≤ maxLen := by have : maxLen = 9223372036854775807 := rfl; omega
            have R1 := fun (W : World) => run_cut W x0 (a : Int) ((a : Int) + ((x0.size : Int) - (a : Int))) (by omega) (by omega) (by omega)
            have t1 : ((a : Int) + ((x0.size : Int) - (a : Int))).toNat = a + (x0.size - a) := by omega
            simp only [Int.toNat_natCast, t1, hY] at R1
            have HLT := Aside0.mk (show ((bs x0).take (a + (x0.size - a))).length = a + (x0.size - a) by rw [List.length_take, ← size_bs]; omega)
            have HTI := Aside0.mk (show (((a + (x0.size - a) : Nat) : Int)) = (a : Int) + ((x0.size : Int) - (a : Int)) by omega)
            have HYS := Aside0.mk hYs
            have HYM := Aside0.mk hYm
            have HBY := Aside0.mk hbY
            clear t1 hY hYs hYm hbY
            go_wp2_with (first
              | ((with_reducible refine gate_dst (N := 78) rfl ?_); refine wpList_conv rfl (N := 78) rfl (.tmp 77) rfl Y rfl HYM.out ?_; intro g4 c4 w4 _ hc4 hcl4 hg4 hb4; have HC4 := Aside0.mk hc4; have HCL := Aside0.mk hcl4; have HS4 := Aside0.mk (HS.out.less hb4); have HB4 := Aside0.mk (HB.out.trans (hb4.mono HB.out.size)); have HNE := Aside0.mk (show g4 ≠ b3 from by have := HS.out.lies.2; omega); clear hc4 hcl4 hg4 hb4)
              | (go_at_call 17; ((with_reducible refine (rwr_feed w4 w2.heap.size b3 m x1 sTwo _ _ HS4.out HZ.out (mx_below HM.out (HB2.out.trans (HB4.out.mono HB2.out.size)) hz) HFT.out.1 HFT.out.2 g4 0 Y.size c4 (bs Y) (size_bs Y) HC4.out HCL.out HNE.out (by rw [← size_bs]; have := HYS.out; omega) (by rw [List.length_take]; omega)).mono ?_)); rintro e w5 ⟨O5, rfl, hs, hb⟩; rw [HBY.out, ← bs_append] at hs; have hlt := hs.told; rw [HLT.out, ← size_bs, ByteArray.size_append] at hlt; have hcat : (9223372036854775807 < out.size + O5.size) = False := eq_false (by omega); have dd1 : decide ((a : Int) + ((x0.size : Int) - (a : Int)) < (out.size : Int) + (O5.size : Int)) = false := decide_eq_false (by omega); have dd2 : decide ((a : Int) + ((x0.size : Int) - (a : Int)) < ((out.size + O5.size : Nat) : Int)) = false := decide_eq_false (by omega); have dd3 : decide ((a : Int) + ((x0.size : Int) - (a : Int)) < (((out ++ O5).size : Nat) : Int)) = false := decide_eq_false (by rw [ByteArray.size_append]; omega); have HS5 := Aside0.mk hs; have HB5 := Aside0.mk (HB4.out.trans hb); clear hs hb hlt)
              | (go_at_call 22; have CT := ((rwr_taken w5 _ b3 _ _ _ _ HS5.out).mono (R' := fun e w' => e = .returned (.int .i64 ((a : Int) + ((x0.size : Int) - (a : Int)))) ∧ w' = w5) (fun e w' h => ⟨by rw [h.1, HLT.out, HTI.out], h.2⟩)); ((with_reducible refine CT.mono ?_)); rintro e w6 ⟨rfl, rfl⟩; clear CT))
            go_roundg g
            case measure => omega
            case rel => exact ⟨i + 1, a + (x0.size - a), out ++ O5, by omega, by omega, rfl, by go_num, by go_num, HS5, HB5⟩
          · have d2 : decide ((x0.size : Int) - (a : Int) < y) = false := decide_eq_false q2
            obtain ⟨n, rfl⟩ : ∃ n : Nat, y = (n : Int) := ⟨y.toNat, by omega⟩
            obtain ⟨Y, hY⟩ : ∃ Y, x0.extract a (a + n) = Y := ⟨_, rfl⟩
            have hbY : (bs x0).take a ++ bs Y = (bs x0).take (a + n) := by rw [← hY, bs_extract, Nat.add_sub_cancel_left, List.take_add]
            have hYs : Y.size ≤ x0.size := by rw [← hY, ByteArray.size_extract]; omega
            have hYm : Y.size ≤ maxLen := by have : maxLen = 9223372036854775807 := rfl; omega
            have R1 := fun (W : World) => run_cut W x0 (a : Int) ((a : Int) + ((n : Int))) (by omega) (by omega) (by omega)
            have t1 : ((a : Int) + ((n : Int))).toNat = a + n := by omega
            simp only [Int.toNat_natCast, t1, hY] at R1
            have HLT := Aside0.mk (show ((bs x0).take (a + n)).length = a + n by rw [List.length_take, ← size_bs]; omega)
            have HTI := Aside0.mk (show (((a + n : Nat) : Int)) = (a : Int) + ((n : Int)) by omega)
            have HYS := Aside0.mk hYs
            have HYM := Aside0.mk hYm
            have HBY := Aside0.mk hbY
            clear t1 hY hYs hYm hbY
            go_wp2_with (first
              | ((with_reducible refine gate_dst (N := 78) rfl ?_); refine wpList_conv rfl (N := 78) rfl (.tmp 77) rfl Y rfl HYM.out ?_; intro g4 c4 w4 _ hc4 hcl4 hg4 hb4; have HC4 := Aside0.mk hc4; have HCL := Aside0.mk hcl4; have HS4 := Aside0.mk (HS.out.less hb4); have HB4 := Aside0.mk (HB.out.trans (hb4.mono HB.out.size)); have HNE := Aside0.mk (show g4 ≠ b3 from by have := HS.out.lies.2; omega); clear hc4 hcl4 hg4 hb4)
              | (go_at_call 17; ((with_reducible refine (rwr_feed w4 w2.heap.size b3 m x1 sTwo _ _ HS4.out HZ.out (mx_below HM.out (HB2.out.trans (HB4.out.mono HB2.out.size)) hz) HFT.out.1 HFT.out.2 g4 0 Y.size c4 (bs Y) (size_bs Y) HC4.out HCL.out HNE.out (by rw [← size_bs]; have := HYS.out; omega) (by rw [List.length_take]; omega)).mono ?_)); rintro e w5 ⟨O5, rfl, hs, hb⟩; rw [HBY.out, ← bs_append] at hs; have hlt := hs.told; rw [HLT.out, ← size_bs, ByteArray.size_append] at hlt; have hcat : (9223372036854775807 < out.size + O5.size) = False := eq_false (by omega); have dd1 : decide ((a : Int) + ((n : Int)) < (out.size : Int) + (O5.size : Int)) = false := decide_eq_false (by omega); have dd2 : decide ((a : Int) + ((n : Int)) < ((out.size + O5.size : Nat) : Int)) = false := decide_eq_false (by omega); have dd3 : decide ((a : Int) + ((n : Int)) < (((out ++ O5).size : Nat) : Int)) = false := decide_eq_false (by rw [ByteArray.size_append]; omega); have HS5 := Aside0.mk hs; have HB5 := Aside0.mk (HB4.out.trans hb); clear hs hb hlt)
              | (go_at_call 22; have CT := ((rwr_taken w5 _ b3 _ _ _ _ HS5.out).mono (R' := fun e w' => e = .returned (.int .i64 ((a : Int) + ((n : Int)))) ∧ w' = w5) (fun e w' h => ⟨by rw [h.1, HLT.out, HTI.out], h.2⟩)); ((with_reducible refine CT.mono ?_)); rintro e w6 ⟨rfl, rfl⟩; clear CT))
            go_roundg g
            case measure => omega
            case rel => exact ⟨i + 1, a + n, out ++ O5, by omega, by omega, rfl, by go_num, by go_num, HS5, HB5⟩
      | zero =>
        obtain rfl : i = xs2.length := by omega
        have R1 := fun (W : World) => run_from W x0 (a : Int) (by omega) (by omega)
        obtain ⟨Y, hY⟩ : ∃ Y, x0.extract a x0.size = Y := ⟨_, rfl⟩
        have hbY : (bs x0).take a ++ bs Y = bs x0 := by rw [← hY, bs_extract, List.take_of_length_le (l := (bs x0).drop a) (by rw [List.length_drop, ← size_bs]; omega), List.take_append_drop]
        have hYs : Y.size ≤ x0.size := by rw [← hY, ByteArray.size_extract]; omega
        have hYm : Y.size ≤ maxLen := by have : maxLen = 9223372036854775807 := rfl; omega
        simp only [Int.toNat_natCast, hY] at R1
        have HYS := Aside0.mk hYs
        have HYM := Aside0.mk hYm
        have HBY := Aside0.mk hbY
        clear hY hYs hYm hbY
        have hcc := fun (W : World) => Lib.run_convert_bytes_const (P := Try.prog) W 36 5 #[Value.int .u8 48, Value.int .u8 49, Value.int .u8 50, Value.int .u8 51, Value.int .u8 52, Value.int .u8 53, Value.int .u8 54, Value.int .u8 55, Value.int .u8 56, Value.int .u8 57, Value.int .u8 97, Value.int .u8 98, Value.int .u8 99, Value.int .u8 100, Value.int .u8 102, Value.int .u8 103, Value.int .u8 104, Value.int .u8 105, Value.int .u8 106, Value.int .u8 107, Value.int .u8 108, Value.int .u8 109, Value.int .u8 110, Value.int .u8 112, Value.int .u8 113, Value.int .u8 114, Value.int .u8 115, Value.int .u8 118, Value.int .u8 119, Value.int .u8 120, Value.int .u8 121, Value.int .u8 122] 32 32 Try.underlying36 Try.underlying5
        go_wp2_with (first
          | ((with_reducible refine gate_dst (N := 102) rfl ?_); refine wpList_conv rfl (N := 102) rfl (.tmp 101) rfl Y rfl HYM.out ?_; intro g4 c4 w4 _ hc4 hcl4 hg4 hb4; have HC4 := Aside0.mk hc4; have HCL := Aside0.mk hcl4; have HS4 := Aside0.mk (HS.out.less hb4); have HB4 := Aside0.mk (HB.out.trans (hb4.mono HB.out.size)); have HNE := Aside0.mk (show g4 ≠ b3 from by have := HS.out.lies.2; omega); clear hc4 hcl4 hg4 hb4)
          | (go_at_call 17; first | (((with_reducible refine (rwr_feed w4 w2.heap.size b3 m x1 sTwo _ _ HS4.out HZ.out (mx_below HM.out (HB2.out.trans (HB4.out.mono HB2.out.size)) hz) HFT.out.1 HFT.out.2 g4 0 Y.size c4 (bs Y) (size_bs Y) HC4.out HCL.out HNE.out (by rw [← size_bs]; have := HYS.out; omega) (by rw [List.length_take]; omega)).mono ?_)); rintro e w5 ⟨O5, rfl, hs, hb⟩; rw [HBY.out, ← bs_append] at hs; have hlt := hs.told; rw [← size_bs, ← size_bs, ByteArray.size_append] at hlt; have hcat : (9223372036854775807 < out.size + O5.size) = False := eq_false (by omega); have HS5 := Aside0.mk hs; have HB5 := Aside0.mk (HB4.out.trans hb); clear hs hb) | (change Calls _ _ _ (w6.alloc (.cells ((bs sOne).map bc).toArray 5 (32, 33))) _; have hba := below_alloc (Below.refl w6.heap.size w6) (.cells ((bs sOne).map bc).toArray 5 (32, 33)); generalize w6.alloc (.cells ((bs sOne).map bc).toArray 5 (32, 33)) = w7 at hba ⊢; have HS7 := Aside0.mk (HS6.out.less hba); have HB7 := Aside0.mk (HB6.out.trans (hba.mono HB6.out.size)); ((with_reducible refine (rwc_feed w7 w2.heap.size b3 x1 sTwo _ HS7.out _ _ _).mono ?_)); rintro e w7' ⟨rfl, rfl⟩; clear hba))
          | (go_at_call 18; first | (((with_reducible refine (rwr_close w5 _ b3 _ _ _ _ HS5.out HFT.out.1).mono ?_)); rintro e w6 ⟨T6, rfl, he, hs, hb⟩; rw [HBO.out, ← bs_append] at he; have he6 := bs_inj he; have hsz6 : out.size + O5.size + T6.size ≤ 1048576 := (by rw [← ByteArray.size_append, ← ByteArray.size_append, he6]; have := R_length (t := bs sTwo) HFT.out.1 HFT.out.2 _ (bs x0) (Nat.le_refl _); rw [HBO.out, ← size_bs, ← size_bs] at this; omega); have hcat6 : (9223372036854775807 < out.size + O5.size + T6.size) = False := eq_false (by omega); have HS6 := Aside0.mk hs; have HB6 := Aside0.mk (HB5.out.trans hb); clear hs hb he hsz6) | (((with_reducible refine (rwc_close _ w2.heap.size b3 x1 sTwo _ HS7.out).mono ?_)); rintro e w8 ⟨rfl, hs, hb⟩; have HS8 := Aside0.mk hs; have HB8 := Aside0.mk (HB7.out.trans hb); clear hs hb))
          | (go_at_call 19; have CP := rwc_places w8 w2.heap.size b3 x1 sTwo _ HS8.out HFT.out.1 (by rw [← size_bs]; omega); rw [HPP.out] at CP; ((with_reducible refine CP.mono ?_)); rintro e w9 ⟨v9, rfl, hr, hb⟩; have HS9 := Aside0.mk (HS8.out.less hb); have HB9 := Aside0.mk (HB8.out.trans (hb.mono HB8.out.size)); have HC9 := Aside0.mk (Kd.C_below HC3.out HB9.out); obtain ⟨A9, c9, rfl, hc9, hC9⟩ := Kd.R_reads hr; have HE9 := Aside0.mk hC9; have HD9 := Aside0.mk hc9; clear hr hb hC9 hc9 CP)
          | (go_at_call 12; ((with_reducible refine (depotlaw14_ints.calls k2 A9 c9 P A3 c3 P true w9 HE9.out HD9.out HC9.out HD3.out HK2.out).mono ?_)); rintro e w10 ⟨rfl, hd⟩; have HS10 := Aside0.mk (HS9.out.less hd.below); have HB10 := Aside0.mk (HB9.out.trans (hd.below.mono HB9.out.size)); clear hd)
          | (go_at_call 22; have CT := rwc_taken _ _ b3 x1 sTwo _ HS10.out; rw [← size_bs] at CT; ((with_reducible refine CT.mono ?_)); rintro e w11 ⟨rfl, rfl⟩; clear CT))
        go_ret
        exact ⟨rfl, HB2.out.trans (HB10.out.mono HB2.out.size)⟩
  · have h131 : wanted2 x1 sTwo = 131 := by
      unfold wanted2 at hw ⊢
      rcases hashNo_cases (bs x1) with h1 | h1
      · rw [if_neg (fun k => k h1)] at hw ⊢
        exact (hashNo_cases (bs sTwo)).resolve_left hw
      · rw [if_pos (by rw [h1]; decide)]
        exact h1
    have CR2 := Aside0.mk (fun (W : World) (hW : W.cell? ⟨0, 0, none⟩ = some (.int .i64 m)) => (CR.out W hW).mono (R' := fun e w' => Below W.heap.size W w' ∧ e = .returned (.tuple #[.string ⟨#[]⟩, .slice none 0 0, .int .i64 131])) (fun e w' h => ⟨h.1, by
      rcases h.2 with h | h
      · rw [h131] at h
        exact h.2
      · exact absurd h.1 hw⟩))
    have CN2 := Aside0.mk (fun (W : World) => (CN.out W).mono (R' := fun e w' => Below W.heap.size W w' ∧ e = .returned (.tuple #[.pointer none, .int .i64 131])) (fun e w' h => by
      rcases h with h | h
      · rw [h131] at h
        exact ⟨h.2.2, h.2.1⟩
      · exact absurd h.1 hw))
    unfold sTwo at CR2 CN2
    clear hw CR CN hm h131
    go_enter Try.func8, Try.ntmps8
    go_wp2_with (first
      | (go_at_call 9; ((with_reducible refine CA.out.mono ?_)); rintro e w1 ⟨rfl, hb⟩; have HB1 := Aside0.mk hb; clear hb)
      | (go_at_call 10; ((with_reducible refine (CR2.out w1 (mx_below HM.out HB1.out hz)).mono ?_)); rintro e w2 ⟨hb, rfl⟩; have HB2 := Aside0.mk (HB1.out.trans (hb.mono HB1.out.size)); clear hb)
      | (go_at_call 16; ((with_reducible refine (CN2.out w2).mono ?_)); rintro e w3 ⟨hb, rfl⟩; have HB3 := Aside0.mk (HB2.out.trans (hb.mono HB2.out.size)); clear hb))
    go_ret
    exact ⟨rfl, HB3.out⟩
end Go.Proofs.Ytbllmpfdhcbkpaa.Scan
/- What came in, opened by its kind: a reading of a value ys data gives the Lean value of the print's kinds, with its sizes. For rows over slices and structs. -/
set_option linter.unusedVariables false
set_option linter.unusedSimpArgs false
namespace Go.Proofs.Ytbllmpfdhcbkpaa.Opens
open Go.RowKit Go.Deep Go.Proofs.YtbllmpfdhcbkpaaW.PrintWords

section
variable {α β : Type}
/-- A reading at type t gives a value of kind d: its cells (K), its weights (each no more than one of the datum's, or 0), its bulk, and what is good about its numbers. -/
structure Opens (P : Program) (t : TypeId) (d : Kd α) (Wt : α → List Nat) (Bk : α → Nat) (Gd : α → Prop) : Prop where
  sz : P.cellsOf t = d.sz
  out : ∀ {H : Type} {enc : TypeId × Value → H} {w : World} {base : Nat} {spare : Nat → Bool} {held : Bool} {fuel : Nat} {cs : List Value} {x : DataW H × List MemPlace},
    DataW.trod enc P w base spare held fuel t cs = some x → ∃ a, d.K w a cs ∧ (∀ n ∈ Wt a, n = 0 ∨ ∃ m ∈ x.1.weights P t, n ≤ m) ∧ Bk a ≤ Rows.uptoBulk x.1 ∧ Gd a

variable {P : Program} {t : TypeId}
theorem opens_string (ht : P.underlying t = some .string) (hs : P.cellsOf t = 1) : Opens P t Kd.string (fun s => [s.size]) (fun s => s.size + 1) (fun s => s.size ≤ maxLen) := by
  refine ⟨hs, fun {H enc w base spare held fuel cs x} h => ?_⟩
  obtain ⟨s, rfl, rfl, hw⟩ := DataW.trod_string ht h
  refine ⟨s, rfl, ?_, ?_, hw⟩
  · intro n hn
    rw [List.mem_singleton] at hn
    refine .inr ⟨s.data.toList.length, by rw [DataW.weights]; exact List.mem_singleton.2 rfl, ?_⟩
    rw [hn, Array.length_toList]
    exact Nat.le_refl _
  · rw [Rows.uptoBulk, Array.length_toList]
    exact Nat.le_refl _
theorem opens_bool (ht : P.underlying t = some .bool) (hs : P.cellsOf t = 1) : Opens P t Kd.bool (fun _ => []) (fun _ => 1) (fun _ => True) := by
  refine ⟨hs, fun {H enc w base spare held fuel cs x} h => ?_⟩
  obtain ⟨b, rfl, rfl⟩ := DataW.trod_bool ht h
  exact ⟨b, rfl, fun _ h => absurd h (by simp), by rw [Rows.uptoBulk] <;> simp, trivial⟩
theorem opens_int {k : IntKind} (ht : P.underlying t = some (.int k)) (hs : P.cellsOf t = 1) : Opens P t (Kd.int k) (fun _ => []) (fun _ => 1) (fun n => (Lit.int k n).wf = true) := by
  refine ⟨hs, fun {H enc w base spare held fuel cs x} h => ?_⟩
  obtain ⟨n, rfl, rfl, hw⟩ := DataW.trod_int ht h
  exact ⟨n, rfl, fun _ h => absurd h (by simp), by rw [Rows.uptoBulk] <;> simp, hw⟩

theorem list_of {Q : Nat → α → Prop} : ∀ (n : Nat), (∀ i, i < n → ∃ a, Q i a) → ∃ ys : List α, ys.length = n ∧ ∀ i a, ys[i]? = some a → Q i a
  | 0, _ => ⟨[], rfl, fun i a h => by simp at h⟩
  | n + 1, h => by
    obtain ⟨ys, hl, hq⟩ := list_of n (fun i hi => h i (by omega))
    obtain ⟨a, ha⟩ := h n (by omega)
    refine ⟨ys ++ [a], by simp [hl], fun i b hb => ?_⟩
    rcases Nat.lt_or_ge i n with hi | hi
    · rw [List.getElem?_append_left (by omega)] at hb
      exact hq i b hb
    · have : i < (ys ++ [a]).length := (List.getElem?_eq_some_iff.1 hb).1
      simp [hl] at this
      have e : i = n := by omega
      subst e
      rw [List.getElem?_append_right (by omega), hl, Nat.sub_self] at hb
      simp at hb
      subst hb
      exact ha
theorem sum_le_range (ys : List α) (Bk : α → Nat) (b : Nat → Nat) (h : ∀ i a, ys[i]? = some a → Bk a ≤ b i) : (ys.map Bk).sum ≤ ((List.range ys.length).map b).sum := by
  induction ys generalizing b with
  | nil => simp
  | cons a ys ih =>
    have h0 := h 0 a rfl
    have h1 := ih (fun i => b (i + 1)) (fun i a ha => h (i + 1) a (by simpa using ha))
    rw [List.length_cons, List.range_succ_eq_map, List.map_cons, List.sum_cons, List.map_cons, List.sum_cons, List.map_map]
    have e : (List.map (b ∘ Nat.succ) (List.range ys.length)) = List.map (fun i => b (i + 1)) (List.range ys.length) := rfl
    rw [e]
    omega
theorem bulkAll_sum {H : Type} (l : List (DataW H)) : Rows.uptoBulkAll l = (l.map Rows.uptoBulk).sum := by
  induction l with
  | nil => rfl
  | cons d l ih => rw [Rows.uptoBulkAll, ih, List.map_cons, List.sum_cons]
theorem weightsAll_mem {H : Type} {e : TypeId} : ∀ (l : List (DataW H)) (d : DataW H), d ∈ l → ∀ m ∈ d.weights P e, m ∈ DataW.weightsAll P e l
  | [], d, h => absurd h (by simp)
  | d' :: l, d, h => by
    intro m hm
    rw [DataW.weightsAll, List.mem_append]
    rcases List.mem_cons.1 h with rfl | h
    · exact .inl hm
    · exact .inr (weightsAll_mem l d h m hm)

theorem opens_slice {e : TypeId} {d : Kd α} {Wt : α → List Nat} {Bk : α → Nat} {Gd : α → Prop} (ht : P.underlying t = some (.slice e)) (hs : P.cellsOf t = 1) (he : Opens P e d Wt Bk Gd) :
    Opens P t (Kd.slice e d) (fun xs => (xs.length * P.bytesOf e) :: xs.flatMap Wt) (fun xs => (xs.map Bk).sum + 1) (fun xs => xs.length ≤ maxLen ∧ ∀ x ∈ xs, Gd x) := by
  refine ⟨hs, fun {H enc w base spare held fuel cs x} h => ?_⟩
  rcases open_slice ht h with ⟨rfl, rfl⟩ | ⟨a, len, cap, m, n, D, Pl, rfl, hb, hl, hm, hmm, rfl, hx⟩
  · exact ⟨[], ⟨none, 0, rfl, Nat.le_refl _, Kd.C_nil d w⟩, fun n hn => .inl (by simpa using hn), by rw [Rows.uptoBulk]; simp, by simp, by simp⟩
  · have hlm : len ≤ m := by rw [hmm]; split <;> omega
    have each : ∀ i, i < len → ∃ b : α, (∃ cs', w.cells? base (a.add (i * P.cellsOf e)) (P.cellsOf e) = some cs' ∧ d.K w b cs') ∧ (∀ q ∈ Wt b, q = 0 ∨ ∃ r ∈ (D i).weights P e, q ≤ r) ∧ Bk b ≤ Rows.uptoBulk (D i) ∧ Gd b := by
      intro i hi
      obtain ⟨cs', h1, h2⟩ := hx i (by omega)
      obtain ⟨b, hK, hw, hk, hg⟩ := he.out h2
      exact ⟨b, ⟨cs', h1, hK⟩, hw, hk, hg⟩
    obtain ⟨ys, hal, has⟩ := list_of len each
    subst hal
    refine ⟨ys, ⟨some a, cap, rfl, hl, rfl, by unfold maxLen at hm; omega, fun hp => ⟨a, rfl, fun j p hj => ?_⟩⟩, ?_, ?_, by omega, ?_⟩
    · obtain ⟨⟨cs', h1, hK⟩, _⟩ := has j p hj
      refine ⟨cs', d.K_len hK, hK, fun i u hu => ?_⟩
      have hc := World.cells?_some h1
      rw [he.sz] at hc
      obtain ⟨hc0, hc1, hc2⟩ := hc
      have hi : i < d.sz := by rw [← d.K_len hK]; exact (List.getElem?_eq_some_iff.1 hu).1
      have := hc2 i (by omega)
      rw [hu] at this
      rw [Go.Deep.add_add] at this
      exact this
    · intro q hq
      rw [List.mem_cons, List.mem_flatMap] at hq
      have hwt : (DataW.slice ((List.range ys.length).map D) ((List.range (m - ys.length)).map fun j => D (ys.length + j)) : DataW H).weights P t = (((List.range ys.length).map D).length + ((List.range (m - ys.length)).map fun j => D (ys.length + j)).length) * P.bytesOf e :: (DataW.weightsAll P e ((List.range ys.length).map D) ++ DataW.weightsAll P e ((List.range (m - ys.length)).map fun j => D (ys.length + j))) := by
        rw [DataW.weights, ht]
      show q = 0 ∨ ∃ r ∈ (DataW.slice ((List.range ys.length).map D) ((List.range (m - ys.length)).map fun j => D (ys.length + j)) : DataW H).weights P t, q ≤ r
      rw [hwt]
      rcases hq with rfl | ⟨b, hbm, hq⟩
      · refine .inr ⟨_, List.mem_cons_self, ?_⟩
        refine Nat.mul_le_mul_right _ ?_
        simp
      · obtain ⟨i, hi⟩ := List.getElem?_of_mem hbm
        have hil : i < ys.length := (List.getElem?_eq_some_iff.1 hi).1
        obtain ⟨_, hw, _⟩ := has i b hi
        rcases hw q hq with h0 | ⟨r, hr, hqr⟩
        · exact .inl h0
        · exact .inr ⟨r, List.mem_cons_of_mem _ (List.mem_append_left _ (weightsAll_mem _ (D i) (List.mem_map.2 ⟨i, List.mem_range.2 hil, rfl⟩) r hr)), hqr⟩
    · show _ ≤ Rows.uptoBulk (DataW.slice ((List.range ys.length).map D) ((List.range (m - ys.length)).map fun j => D (ys.length + j)) : DataW H)
      rw [Rows.uptoBulk, bulkAll_sum, List.map_map]
      have := sum_le_range ys Bk (fun i => Rows.uptoBulk (D i)) (fun i b hb => (has i b hb).2.2.1)
      have e2 : (List.map (Rows.uptoBulk ∘ D) (List.range ys.length)) = List.map (fun i => Rows.uptoBulk (D i)) (List.range ys.length) := rfl
      rw [e2]
      omega
    · intro b hbm
      obtain ⟨i, hi⟩ := List.getElem?_of_mem hbm
      exact (has i b hi).2.2.2

/-- Fields, from a place on. -/
structure OpensF (P : Program) (fs : List Field) (off : Nat) (d : Kd α) (Wt : α → List Nat) (Bk : α → Nat) (Gd : α → Prop) : Prop where
  out : ∀ {H : Type} {enc : TypeId × Value → H} {w : World} {base : Nat} {spare : Nat → Bool} {held : Bool} {fuel : Nat} {cs : List Value} {xs : List (DataW H × List MemPlace)},
    cs.length = off + d.sz → xs.length = fs.length → (∀ (i : Nat) (f : Field), fs[i]? = some f → DataW.trod enc P w base spare held fuel f.type ((cs.drop f.offset).take (P.cellsOf f.type)) = xs[i]?) →
    ∃ a, d.K w a (cs.drop off) ∧ (∀ n ∈ Wt a, n = 0 ∨ ∃ m ∈ DataW.weightsEach P (fs.map (·.type)) (xs.map (·.1)), n ≤ m) ∧ Bk a ≤ Rows.uptoBulkAll (xs.map (·.1)) ∧ Gd a
theorem opensF_one {f : Field} {off : Nat} {d : Kd α} {Wt : α → List Nat} {Bk : α → Nat} {Gd : α → Prop} (ho : f.offset = off) (he : Opens P f.type d Wt Bk Gd) : OpensF P [f] off d Wt Bk Gd := by
  refine ⟨fun {H enc w base spare held fuel cs xs} hc hl h => ?_⟩
  match xs, hl with
  | [x], _ =>
    have h0 := h 0 f rfl
    rw [ho, he.sz, List.take_of_length_le (by rw [List.length_drop]; omega)] at h0
    obtain ⟨a, hK, hw, hb, hg⟩ := he.out h0
    refine ⟨a, hK, fun n hn => ?_, ?_, hg⟩
    · rcases hw n hn with h | ⟨m, hm, hle⟩
      · exact .inl h
      · refine .inr ⟨m, ?_, hle⟩
        simp only [List.map_cons, List.map_nil, DataW.weightsEach, List.append_nil]
        exact hm
    · simp only [List.map_cons, List.map_nil, Rows.uptoBulkAll]
      omega
theorem opensF_cons {f : Field} {fs : List Field} {off : Nat} {d : Kd α} {d' : Kd β} {Wt : α → List Nat} {Bk : α → Nat} {Gd : α → Prop} {Wt' : β → List Nat} {Bk' : β → Nat} {Gd' : β → Prop}
    (ho : f.offset = off) (he : Opens P f.type d Wt Bk Gd) (hr : OpensF P fs (off + d.sz) d' Wt' Bk' Gd') :
    OpensF P (f :: fs) off (Kd.pair d d') (fun x => Wt x.1 ++ Wt' x.2) (fun x => Bk x.1 + Bk' x.2) (fun x => Gd x.1 ∧ Gd' x.2) := by
  refine ⟨fun {H enc w base spare held fuel cs xs} hc hl h => ?_⟩
  have hsz : (Kd.pair d d').sz = d.sz + d'.sz := rfl
  rw [hsz] at hc
  match xs, hl with
  | x :: xs, hl =>
    have h0 := h 0 f rfl
    rw [ho, he.sz] at h0
    obtain ⟨a, hK, hw, hb, hg⟩ := he.out h0
    obtain ⟨b, hK', hw', hb', hg'⟩ := hr.out (enc := enc) (w := w) (base := base) (spare := spare) (held := held) (fuel := fuel) (cs := cs) (xs := xs) (by omega) (by simpa using hl) (fun i f' hf => by simpa using h (i + 1) f' (by simpa using hf))
    refine ⟨(a, b), ⟨(cs.drop off).take d.sz, cs.drop (off + d.sz), ?_, hK, hK'⟩, fun n hn => ?_, ?_, hg, hg'⟩
    · rw [← List.drop_drop, List.take_append_drop]
    · simp only [List.map_cons, DataW.weightsEach, List.mem_append]
      rcases List.mem_append.1 hn with hn | hn
      · rcases hw n hn with h | ⟨m, hm, hle⟩
        · exact .inl h
        · exact .inr ⟨m, .inl hm, hle⟩
      · rcases hw' n hn with h | ⟨m, hm, hle⟩
        · exact .inl h
        · exact .inr ⟨m, .inr hm, hle⟩
    · simp only [List.map_cons, Rows.uptoBulkAll]
      omega
theorem opens_struct {fs : Array Field} {d : Kd α} {Wt : α → List Nat} {Bk : α → Nat} {Gd : α → Prop} (ht : P.underlying t = some (.struct fs)) (hs : P.cellsOf t = d.sz) (he : OpensF P fs.toList 0 d Wt Bk Gd) :
    Opens P t d Wt (fun a => Bk a + 1) Gd := by
  refine ⟨hs, fun {H enc w base spare held fuel cs x} h => ?_⟩
  obtain ⟨xs, n, rfl, rfl, hl, hl2, hx⟩ := DataW.trod_struct ht h
  obtain ⟨a, hK, hw, hb, hg⟩ := he.out (enc := enc) (w := w) (base := base) (spare := spare) (held := held) (fuel := n) (cs := cs) (xs := xs) (by omega) (by simpa using hl2) (fun i f hf => hx i f (by simpa using hf))
  refine ⟨a, by simpa using hK, fun n hn => ?_, ?_, hg⟩
  · rcases hw n hn with h | ⟨m, hm, hle⟩
    · exact .inl h
    · refine .inr ⟨m, ?_, hle⟩
      show m ∈ (DataW.agg (xs.map (·.1))).weights P t
      rw [DataW.weights, ht]
      exact hm
  · show _ ≤ Rows.uptoBulk (DataW.agg (xs.map (·.1)))
    rw [Rows.uptoBulk]
    omega
theorem opens_iso {d : Kd α} {Wt : α → List Nat} {Bk : α → Nat} {Gd : α → Prop} (f : β → α) (g : α → β) (hfg : ∀ a, f (g a) = a) (h : Opens P t d Wt Bk Gd) : Opens P t (Kd.iso d f) (fun b => Wt (f b)) (fun b => Bk (f b)) (fun b => Gd (f b)) := by
  refine ⟨h.sz, fun {H enc w base spare held fuel cs x} hx => ?_⟩
  obtain ⟨a, hK, hw, hb, hg⟩ := h.out hx
  refine ⟨g a, ?_, ?_, ?_, ?_⟩
  · show d.K w (f (g a)) cs
    rw [hfg]; exact hK
  · rw [hfg]; exact hw
  · rw [hfg]; exact hb
  · rw [hfg]; exact hg

/-- At an argument: its weights are within the reach. -/
theorem arg {H : Type} {enc : TypeId × Value → H} {w : World} {base : Nat} {spare : Nat → Bool} {held : Bool} {v : Value} {dd : DataW H} {ps : List MemPlace} {d : Kd α} {Wt : α → List Nat} {Bk : α → Nat} {Gd : α → Prop} (h : Opens P t d Wt Bk Gd)
    (hx : DataW.Trod enc P w base spare held t v dd ps) : ∃ a, d.K w a v.cells.toList ∧ (∀ n ∈ Wt a, n = 0 ∨ ∃ m ∈ dd.weights P t, n ≤ m) ∧ Bk a ≤ Rows.uptoBulk dd ∧ Gd a := by
  obtain ⟨fuel, hf⟩ := hx
  obtain ⟨a, h1, h2, h3, h4⟩ := h.out hf
  exact ⟨a, h1, h2, h3, h4⟩
/-- Each weight of an argument is within the reach of the form. -/
theorem reach {H : Type} {ts : List TypeId} {ds : List (DataW H)} (h : (DataW.weightsEach P ts ds).all (· ≤ reachBytes) = true) {j : Nat} {t : TypeId} {dd : DataW H} (ht : ts[j]? = some t) (hd : ds[j]? = some dd) {l : List Nat}
    (hw : ∀ n ∈ l, n = 0 ∨ ∃ m ∈ dd.weights P t, n ≤ m) : ∀ n ∈ l, n ≤ 140737488351232 := by
  intro n hn
  rcases hw n hn with h0 | ⟨m, hm, hle⟩
  · omega
  · have := DataW.weights_mem_each ht hd m hm
    rw [List.all_eq_true] at h
    have h1 := of_decide_eq_true (h m this)
    unfold reachBytes at h1
    omega
end
end Go.Proofs.Ytbllmpfdhcbkpaa.Opens
/- Small sums: what a bound on a sum says of each member. -/
namespace Go.Proofs.Ytbllmpfdhcbkpaa.Upto
theorem mem_le {α : Type} (f : α → Nat) : ∀ (l : List α), ∀ x ∈ l, f x ≤ (l.map f).sum
  | [], x, h => by cases h
  | y :: l, x, h => by
    rw [List.map_cons, List.sum_cons]
    rcases List.mem_cons.1 h with rfl | h
    · omega
    · have := mem_le f l x h
      omega
theorem len_le {α : Type} (f : α → Nat) : ∀ (l : List α), (∀ x ∈ l, 1 ≤ f x) → l.length ≤ (l.map f).sum
  | [], _ => Nat.zero_le _
  | y :: l, h => by
    rw [List.map_cons, List.sum_cons, List.length_cons]
    have h1 := h y List.mem_cons_self
    have := len_le f l (fun x hx => h x (List.mem_cons_of_mem _ hx))
    omega
end Go.Proofs.Ytbllmpfdhcbkpaa.Upto
