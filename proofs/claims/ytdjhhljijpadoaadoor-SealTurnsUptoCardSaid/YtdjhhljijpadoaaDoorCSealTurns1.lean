/- Texts of this claim, put together: Signer, Q13, Q57, Q58, ShaWriteB, ShaOf, Q7, ShaPad, Conv, Mac, Q47, RPad, RSha4, RMac, ExtIdx. -/
import Derived.Test.YtdjhhljijpadoaaDoorQ12
import Derived.Test.YtdjhhljijpadoaaDoorQ56
import Derived.Test.YtdjhhljijpadoaaDoorEv
import Derived.Test.YtdjhhljijpadoaaDoorQ0
import Derived.Test.YtdjhhljijpadoaaDoorShaWrite
import Derived.Laws.CopyRow
import Derived.Test.YtdjhhljijpadoaaDoorShaSum
import Derived.Laws.IdiomStrings
import Derived.Deep.DeepCutAuto
import Derived.Laws.BitsAllLaws
import Derived.Test.YtdjhhljijpadoaaDoorRSha3
import Derived.Test.YtdjhhljijpadoaaDoorOrdersBut
import Derived.Test.YtdjhhljijpadoaaDoorBytes
import Derived.Test.YtdjhhljijpadoaaDoorShelf
/- A signer's name: the program's check and the document's (plain). -/
set_option linter.unusedVariables false
set_option linter.unusedSimpArgs false
namespace Go.Proofs.YtdjhhljijpadoaaDoor.Signer
open Go.RowKit Go.Proofs.YtdjhhljijpadoaaDoor.Q Go.Proofs.YtdjhhljijpadoaaDoorW.PrintWords Go.Proofs.YtdjhhljijpadoaaDoorW.PrintLast Go.Proofs.YtdjhhljijpadoaaDoorW.PrintMore Go.Proofs.YtdjhhljijpadoaaDoor.Bytes Go.Proofs.YtdjhhljijpadoaaDoor.Evs
theorem evIte {α : Type} {c : Prop} [Decidable c] {g f : Nat → Option α} {r : α} (h1 : c → Ev g r) (h2 : ¬ c → Ev f r) : Ev (fun n => if c then g n else f n) r := by
  by_cases h : c
  · exact pos h (h1 h)
  · exact neg h (h2 h)
/-- May a byte stand in a signer's name? -/
def Sg (n : Nat) : Prop := (97 ≤ n ∧ n ≤ 122) ∨ (48 ≤ n ∧ n ≤ 57) ∨ n = 46 ∨ n = 45
instance (n : Nat) : Decidable (Sg n) := by unfold Sg; infer_instance
def allS (l : List UInt8) : Int := if ∀ c ∈ l, Sg c.toNat then 0 else 151
def signNo (l : List UInt8) : Int := if l = [] ∨ 32 < l.length then 151 else allS l
theorem allS_nil : allS [] = 0 := by unfold allS; rw [if_pos (by simp)]
theorem allS_cons (c : UInt8) (l : List UInt8) : allS (c :: l) = if Sg c.toNat then allS l else 151 := by
  unfold allS
  by_cases h : Sg c.toNat
  · rw [if_pos h]
    by_cases hl : ∀ c ∈ l, Sg c.toNat
    · rw [if_pos hl, if_pos (by simpa [h] using hl)]
    · rw [if_neg hl, if_neg (by simpa [h] using hl)]
  · rw [if_neg h, if_neg (by simp [h])]
theorem prog_l0 (s : ByteArray) (hs : (bs s).length ≤ 32) (d : Nat) : ∀ i, i + d = (bs s).length → Ev (fun k => info_CheckSigner.l0 k s ((bs s).length : Int) (i : Int)) (allS ((bs s).drop i)) := by
  induction d with
  | zero =>
    intro i hi
    refine succ ?_
    simp only [info_CheckSigner.l0]
    refine neg (by omega) (now ?_)
    rw [List.drop_of_length_le (by omega), allS_nil]
  | succ d ih =>
    intro i hi
    have hil : i < (bs s).length := by omega
    have hn := ih (i + 1) (by omega)
    refine succ ?_
    simp only [info_CheckSigner.l0]
    refine pos (by omega) (pos (by omega) (pos (by rw [size_bs]; omega) ?_))
    rw [bt_lt s i hil, wr i (by omega), List.drop_eq_getElem_cons hil, allS_cons]
    generalize ((bs s)[i]).toNat = c
    have hc : Sg c → Ev (fun k => info_CheckSigner.l0 k s ((bs s).length : Int) ((i + 1 : Nat) : Int)) (if Sg c then allS ((bs s).drop (i + 1)) else 151) := fun h => by rw [if_pos h]; exact hn
    have he : ¬ Sg c → Ev (fun _ => some 151) (if Sg c then allS ((bs s).drop (i + 1)) else 151) := fun h => by rw [if_neg h]; exact Ev.now _
    unfold Sg at hc he ⊢
    repeat' (refine evIte (fun _ => ?_) (fun _ => ?_))
    all_goals first | exact hc (by omega) | exact he (by omega)
theorem prog_signer (s : ByteArray) (hs : (bs s).length ≤ 140737488355000) : Ev (fun k => info_CheckSigner.f k s) (signNo (bs s)) := by
  unfold info_CheckSigner.f signNo
  rw [toList_bs]
  by_cases h0 : bs s = []
  · refine pos h0 (succ ?_)
    simp only [info_CheckSigner.j0]
    exact pos trivial (same (if_pos (.inl h0)) (Ev.now _))
  · refine neg h0 (succ ?_)
    simp only [info_CheckSigner.j0]
    by_cases hl : 32 < (bs s).length
    · exact pos (decide_eq_true (by rw [size_bs]; omega)) (same (if_pos (.inr hl)) (Ev.now _))
    · refine neg (by rw [decide_eq_true_iff, size_bs]; omega) (same (if_neg (by rintro (h | h); exact h0 h; exact hl h)) ?_)
      have := prog_l0 s (by omega) (bs s).length 0 (by omega)
      rw [List.drop_zero] at this
      rw [size_bs]
      exact this
theorem ref_l0 (s : ByteArray) (hs : (bs s).length ≤ 32) (d : Nat) : ∀ i, i + d = (bs s).length → Ev (fun k => depotref15_CheckSigner.l0 k s (i : Int)) (allS ((bs s).drop i)) := by
  induction d with
  | zero =>
    intro i hi
    refine succ ?_
    simp only [depotref15_CheckSigner.l0]
    refine neg (by rw [size_bs]; omega) (now ?_)
    rw [List.drop_of_length_le (by omega), allS_nil]
  | succ d ih =>
    intro i hi
    have hil : i < (bs s).length := by omega
    have hn := ih (i + 1) (by omega)
    refine succ ?_
    simp only [depotref15_CheckSigner.l0]
    refine pos (by rw [size_bs]; omega) (pos (by omega) ?_)
    rw [bt_lt s i hil, wr i (by omega), List.drop_eq_getElem_cons hil, allS_cons]
    generalize ((bs s)[i]).toNat = c
    have hc : Sg c → Ev (fun k => depotref15_CheckSigner.l0 k s ((i + 1 : Nat) : Int)) (if Sg c then allS ((bs s).drop (i + 1)) else 151) := fun h => by rw [if_pos h]; exact hn
    have he : ¬ Sg c → Ev (fun _ => some 151) (if Sg c then allS ((bs s).drop (i + 1)) else 151) := fun h => by rw [if_neg h]; exact Ev.now _
    unfold Sg at hc he ⊢
    repeat' (refine evIte (fun _ => ?_) (fun _ => ?_))
    all_goals first | exact hc (by omega) | exact he (by omega)
theorem ref_signer (s : ByteArray) (hs : (bs s).length ≤ 140737488355000) : Ev (fun k => depotref15_CheckSigner.f k s) (signNo (bs s)) := by
  unfold depotref15_CheckSigner.f signNo
  by_cases h0 : bs s = []
  · refine pos (by rw [size_bs, h0]; decide) (succ ?_)
    simp only [depotref15_CheckSigner.j0]
    exact pos trivial (same (if_pos (.inl h0)) (Ev.now _))
  · have hpos : 0 < (bs s).length := List.length_pos_iff.2 h0
    refine neg (by rw [size_bs]; omega) (succ ?_)
    simp only [depotref15_CheckSigner.j0]
    by_cases hl : 32 < (bs s).length
    · exact pos (decide_eq_true (by rw [size_bs]; omega)) (same (if_pos (.inr hl)) (Ev.now _))
    · refine neg (by rw [decide_eq_true_iff, size_bs]; omega) (same (if_neg (by rintro (h | h); exact h0 h; exact hl h)) ?_)
      have := ref_l0 s (by omega) (bs s).length 0 (by omega)
      rw [List.drop_zero] at this
      exact this
theorem signNo_len {l : List UInt8} (h : signNo l = 0) : l.length ≤ 32 := by
  unfold signNo at h
  by_cases hc : l = [] ∨ 32 < l.length
  · rw [if_pos hc] at h; exact absurd h (by decide)
  · omega
end Go.Proofs.YtdjhhljijpadoaaDoor.Signer
/- By a program of this session's: a plain Lean function for a Go function, and its contract. -/
namespace Go.Proofs.YtdjhhljijpadoaaDoor.Q
open Go.RowKit Go.Proofs.YtdjhhljijpadoaaDoorW.PrintWords Go.Proofs.YtdjhhljijpadoaaDoorW.PrintLast Go.Proofs.YtdjhhljijpadoaaDoorW.PrintMore
attribute [local go_sem] max2_int min2_int max_two min_two max_three min_three max_four min_four Go.Proofs.YtdjhhljijpadoaaDoor.Ord.str_leq Go.Proofs.YtdjhhljijpadoaaDoor.Ord.str_gtr Go.Proofs.YtdjhhljijpadoaaDoor.Ord.str_geq   -- for this text's walks alone
set_option linter.unusedVariables false
set_option linter.unusedSimpArgs false

/-! ### radix_Base32: function 17 -/
mutual
def radix_Base32.l0 : Nat → ByteArray → List Int → Int → Int → Int → Int → Int → Option (ByteArray)
  | 0, _, _, _, _, _, _, _ => none
  | k + 1, x0, x4, x5, x6, x7, x18, x19 => if x19 < x18 then (if 0 ≤ x19 then (if x19 < (x0.size : Int) then (if 0 ≤ x6 then (radix_Base32.l1 k x0 x4 (Go.bits .or .u64 x5 (shl .u64 (IntKind.u64.wrap (bt x0 x19)) x6)) (IntKind.u64.wrap (x6 + 8)) x7 x18 x19) else (none)) else (none)) else (none)) else (if x6 > 0 then (if 0 ≤ (Go.bits .and .u64 x5 31) then (if (Go.bits .and .u64 x5 31) < 32 then (if 0 ≤ (wrap64 (x7 - 1)) then (if (wrap64 (x7 - 1)) < (x4.length : Int) then (some (strOfNums (x4.set ((wrap64 (x7 - 1)) : Int).toNat (bt (⟨#[48, 49, 50, 51, 52, 53, 54, 55, 56, 57, 97, 98, 99, 100, 102, 103, 104, 105, 106, 107, 108, 109, 110, 112, 113, 114, 115, 118, 119, 120, 121, 122]⟩ : ByteArray) (Go.bits .and .u64 x5 31))))) else (none)) else (none)) else (none)) else (none)) else (some (strOfNums x4)))
def radix_Base32.l1 : Nat → ByteArray → List Int → Int → Int → Int → Int → Int → Option (ByteArray)
  | 0, _, _, _, _, _, _, _ => none
  | k + 1, x0, x4, x5, x6, x7, x18, x19 => if x6 ≥ 5 then (if 0 ≤ (Go.bits .and .u64 x5 31) then (if (Go.bits .and .u64 x5 31) < 32 then (if 0 ≤ (wrap64 (x7 - 1)) then (if (wrap64 (x7 - 1)) < (x4.length : Int) then (radix_Base32.l1 k x0 (x4.set ((wrap64 (x7 - 1)) : Int).toNat (bt (⟨#[48, 49, 50, 51, 52, 53, 54, 55, 56, 57, 97, 98, 99, 100, 102, 103, 104, 105, 106, 107, 108, 109, 110, 112, 113, 114, 115, 118, 119, 120, 121, 122]⟩ : ByteArray) (Go.bits .and .u64 x5 31))) (x5 / 32) (IntKind.u64.wrap (x6 - 5)) (wrap64 (x7 - 1)) x18 x19) else (none)) else (none)) else (none)) else (none)) else (radix_Base32.l0 k x0 x4 x5 x6 x7 x18 (wrap64 (x19 + 1)))
end
def radix_Base32.f (k : Nat) (a0 : ByteArray) : Option (ByteArray) := if 0 ≤ (wrap64 (Int.tdiv (wrap64 ((wrap64 (8 * (a0.size : Int))) + 4)) 5)) then (if (wrap64 (Int.tdiv (wrap64 ((wrap64 (8 * (a0.size : Int))) + 4)) 5) : Int).toNat ≤ 281474976710656 then (radix_Base32.l0 k a0 (List.replicate (wrap64 (Int.tdiv (wrap64 ((wrap64 (8 * (a0.size : Int))) + 4)) 5) : Int).toNat 0) 0 0 (wrap64 (Int.tdiv (wrap64 ((wrap64 (8 * (a0.size : Int))) + 4)) 5)) (a0.size : Int) 0) else (none)) else (none)
theorem radix_Base32.mono_l : ∀ k, (∀ y0 y1 y2 y3 y4 y5 y6, LeO (radix_Base32.l0 k y0 y1 y2 y3 y4 y5 y6) (radix_Base32.l0 (k + 1) y0 y1 y2 y3 y4 y5 y6)) ∧ (∀ y0 y1 y2 y3 y4 y5 y6, LeO (radix_Base32.l1 k y0 y1 y2 y3 y4 y5 y6) (radix_Base32.l1 (k + 1) y0 y1 y2 y3 y4 y5 y6))
  | 0 => ⟨fun _ _ _ _ _ _ _ r h => by simp [radix_Base32.l0] at h, fun _ _ _ _ _ _ _ r h => by simp [radix_Base32.l1] at h⟩
  | k + 1 => by
    obtain ⟨ih0, ih1⟩ := radix_Base32.mono_l k
    refine ⟨?_, ?_⟩
    · intro y0 y1 y2 y3 y4 y5 y6
      unfold radix_Base32.l0
      repeat' first
      | (with_reducible exact ih0 _ _ _ _ _ _ _)
      | (with_reducible exact ih1 _ _ _ _ _ _ _)
      | (with_reducible exact LeO.refl _)
      | (with_reducible exact LeO.none _)
      | (with_reducible refine LeO.ite ?_ ?_)
      | (with_reducible refine LeO.bind ?_ (fun _ => ?_))
      | exact ih0 _ _ _ _ _ _ _
      | exact ih1 _ _ _ _ _ _ _
      | exact LeO.none _
      | refine LeO.ite ?_ ?_
      | refine LeO.bind ?_ (fun _ => ?_)
    · intro y0 y1 y2 y3 y4 y5 y6
      unfold radix_Base32.l1
      repeat' first
      | (with_reducible exact ih0 _ _ _ _ _ _ _)
      | (with_reducible exact ih1 _ _ _ _ _ _ _)
      | (with_reducible exact LeO.refl _)
      | (with_reducible exact LeO.none _)
      | (with_reducible refine LeO.ite ?_ ?_)
      | (with_reducible refine LeO.bind ?_ (fun _ => ?_))
      | exact ih0 _ _ _ _ _ _ _
      | exact ih1 _ _ _ _ _ _ _
      | exact LeO.none _
      | refine LeO.ite ?_ ?_
      | refine LeO.bind ?_ (fun _ => ?_)
theorem radix_Base32.mono : ∀ a0 k, LeO (radix_Base32.f k a0) (radix_Base32.f (k + 1) a0) := by
  intro a0 k
  obtain ⟨ih0, ih1⟩ := radix_Base32.mono_l k
  unfold radix_Base32.f
  repeat' first
      | (with_reducible exact ih0 _ _ _ _ _ _ _)
      | (with_reducible exact ih1 _ _ _ _ _ _ _)
      | (with_reducible exact LeO.refl _)
      | (with_reducible exact LeO.none _)
      | (with_reducible refine LeO.ite ?_ ?_)
      | (with_reducible refine LeO.bind ?_ (fun _ => ?_))
      | exact ih0 _ _ _ _ _ _ _
      | exact ih1 _ _ _ _ _ _ _
      | exact LeO.none _
      | refine LeO.ite ?_ ?_
      | refine LeO.bind ?_ (fun _ => ?_)
set_option maxHeartbeats 8000000 in
set_option maxRecDepth 100000 in
theorem radix_Base32.calls (k : Nat) (a0 : ByteArray) (r : ByteArray) (w : World) (h : radix_Base32.f k a0 = some r) :
    Calls Tryd.prog 17 #[.string a0] w fun e w' => e = .returned (.string r) ∧ Below w.heap.size w w' := by
  have HB := Aside0.mk (Below.refl w.heap.size w)
  have H : (if 0 ≤ (wrap64 (Int.tdiv (wrap64 ((wrap64 (8 * (a0.size : Int))) + 4)) 5)) then (if (wrap64 (Int.tdiv (wrap64 ((wrap64 (8 * (a0.size : Int))) + 4)) 5) : Int).toNat ≤ 281474976710656 then (radix_Base32.l0 k a0 (List.replicate (wrap64 (Int.tdiv (wrap64 ((wrap64 (8 * (a0.size : Int))) + 4)) 5) : Int).toNat 0) 0 0 (wrap64 (Int.tdiv (wrap64 ((wrap64 (8 * (a0.size : Int))) + 4)) 5)) (a0.size : Int) 0) else (none)) else (none)) = some r := h
  clear h
  obtain ⟨ji2, hji2⟩ : ∃ j_ : Int, (wrap64 (Int.tdiv (wrap64 ((wrap64 (8 * (a0.size : Int))) + 4)) 5)) = j_ := ⟨_, rfl⟩
  replace H : (if 0 ≤ (ji2) then (if (ji2 : Int).toNat ≤ 281474976710656 then (radix_Base32.l0 k a0 (List.replicate (ji2 : Int).toNat 0) 0 0 ji2 (a0.size : Int) 0) else (none)) else (none)) = some r := by first | (rw [hji2] at H; exact H) | (simp only [hji2] at H ⊢; exact H)
  have hji2w : (IntKind.i64.wrap (Int.tdiv (wrap64 ((wrap64 (8 * (a0.size : Int))) + 4)) 5)) = ji2 := (i64_w _).trans hji2
  by_cases c3 : 0 ≤ (ji2)
  · rw [if_pos c3] at H
    have c3b0 := eq_true c3
    have c3b1 : decide (0 ≤ (ji2)) = true := decide_eq_true c3
    clear c3
    by_cases c4 : (ji2 : Int).toNat ≤ 281474976710656
    · rw [if_pos c4] at H
      have c4b0 := eq_true c4
      have c4b1 : decide ((ji2 : Int).toNat ≤ 281474976710656) = true := decide_eq_true c4
      clear c4
      obtain ⟨y106, hy106⟩ : ∃ y_ : List Int, y_ = (List.replicate (ji2 : Int).toNat 0) := ⟨_, rfl⟩
      replace H : (radix_Base32.l0 k a0 y106 0 0 ji2 (a0.size : Int) 0) = some r := by first | (rw [hy106]; with_reducible exact H) | (have H2_ := (Option.bind_some _ _).symm.trans H; rw [hy106]; with_reducible exact H2_) | (have H2_ := (Option.bind_some _ _).symm.trans H; with_reducible exact H2_) | with_reducible exact H | (rw [hy106]; exact H) | exact H
      have Ny106 := Aside0.mk hy106
      clear hy106
      have H' := Aside0.mk H
      clear H
      go_enter Tryd.func17, Tryd.ntmps17
      go_wp2_with (first | ((with_reducible refine gate_dst (N := 15) rfl ?_); refine Kd.R_make (Kd.int .u8) _ 5 rfl (N := 15) rfl 34 _ _ rfl ji2 rfl rfl Tryd.underlying34 (.int .u8 0) 1 info5 rfl (by decide) (by omega) 0 (ok := fun _ => True) (okp := fun _ => True) rfl (fun _ hk => hk) trivial (of_decide_eq_true (by first | (with_reducible assumption) | assumption)) (Nat.le_trans (Nat.mul_le_mul_right _ (of_decide_eq_true (by first | (with_reducible assumption) | assumption) : ji2.toNat ≤ 281474976710656)) (by omega)) (Below.refl _ _) (Nat.le_refl _) ?_; intro v107 w5 ho6 hb hg_ hnew_; clear hg_ hnew_; (first | rw [← Ny106.out] at ho6 | (simp only [Int.reduceToNat] at ho6; rw [← Ny106.out] at ho6)); have n0_ := Aside0.mk (Kd.R_lower ho6 (below_size (by repeat (first | (with_reducible first | exact HB.out | apply below_alloc | apply pw_below_drewN | apply below_drew1) | exact HB.out)))); have n1_ := Aside0.mk (below_step (by repeat (first | (with_reducible first | exact HB.out | apply below_alloc | apply pw_below_drewN | apply below_drew1) | exact HB.out)) hb); clear HB; have HO108 := n0_; have HB := n1_; clear n0_ n1_; clear hb ho6))
      go_loopg [5, 6, 7, 19] k (fun kq v5 v6 v7 v19 w' => ∃ (x4_1 : List Int) (x5_1 : Int) (x6_1 : Int) (x7_1 : Int) (x19_1 : Int), v5 = .int .u64 x5_1 ∧ v6 = .int .u64 x6_1 ∧ v7 = .int .i64 x7_1 ∧ v19 = .int .i64 x19_1 ∧ Aside0 (radix_Base32.l0 kq a0 x4_1 x5_1 x6_1 x7_1 (a0.size : Int) x19_1 = some r) ∧ Aside0 (kq ≤ k) ∧ Aside0 (Kd.R (Kd.int .u8) 5 w' w.heap.size (fun _ => True) v107 x4_1) ∧ Aside0 (Below w.heap.size w w'))
      case atStart => exact ⟨(y106), (0), (0), (ji2), (0), (by first | rfl | (simp; done) | (simp [*]; done)), (by first | rfl | (simp; done) | (simp [*]; done)), (by first | rfl | (simp; done) | (simp only [← hji2] <;> (first | rfl | simp)) | (simp [*]; done)), (by first | rfl | (simp; done) | (simp [*]; done)), H', ⟨Nat.le_refl _⟩, ⟨by (with_reducible repeat (first | apply Kd.R_alloc | apply Kd.R_drewN | apply Kd.R_drew)); exact HO108.out⟩, ⟨by repeat (first | (with_reducible first | exact HB.out | apply below_alloc | apply pw_below_drewN | apply below_drew1) | exact HB.out)⟩⟩
      case round =>
        clear H'
        try clear c1
        try clear p2
        try clear c3
        try clear c3b0
        try clear c3b1
        try clear c4
        try clear c4b0
        try clear c4b1
        try clear p6
        obtain ⟨x4_1, x5_1, x6_1, x7_1, x19_1, rfl, rfl, rfl, rfl, HA, HK1, HO_4, HB⟩ := hrel
        cases gk with
        | zero => exact absurd HA.out (by simp [radix_Base32.l0])
        | succ k1 =>
          have H := HA.out
          clear HA
          simp only [radix_Base32.l0] at H
          by_cases c7 : x19_1 < (a0.size : Int)
          · rw [if_pos c7] at H
            have c7b0 : decide (x19_1 < (a0.size : Int)) = true := decide_eq_true c7
            clear c7
            by_cases c8 : 0 ≤ x19_1
            · rw [if_pos c8] at H
              have c8b0 : decide (0 ≤ x19_1) = true := decide_eq_true c8
              clear c8
              by_cases c9 : x19_1 < (a0.size : Int)
              · rw [if_pos c9] at H
                have c9b0 : decide (x19_1 < (a0.size : Int)) = true := decide_eq_true c9
                clear c9
                by_cases c11 : 0 ≤ x6_1
                · rw [if_pos c11] at H
                  have c11b0 := eq_true c11
                  have c11b1 : decide (0 ≤ x6_1) = true := decide_eq_true c11
                  clear c11
                  obtain ⟨ji12, hji12⟩ : ∃ j_ : Int, (shl .u64 (IntKind.u64.wrap (bt a0 x19_1)) x6_1) = j_ := ⟨_, rfl⟩
                  replace H : (radix_Base32.l1 k1 a0 x4_1 (Go.bits .or .u64 x5_1 (ji12)) (IntKind.u64.wrap (x6_1 + 8)) x7_1 (a0.size : Int) x19_1) = some r := by first | (rw [hji12] at H; exact H) | (simp only [hji12] at H ⊢; exact H)
                  have hji12_ : (IntKind.u64.wrap ((IntKind.u64.wrap (bt a0 x19_1)) * 2 ^ min x6_1.toNat 64)) = ji12 := hji12
                  have hji12z : x6_1 ≤ 64 → (IntKind.u64.wrap ((IntKind.u64.wrap (bt a0 x19_1)) * 2 ^ x6_1.toNat)) = ji12 := shl_small hji12
                  have H' := Aside0.mk H
                  clear H
                  have p10 : 0 ≤ (x19_1 : Int) := of_decide_eq_true (by first | (with_reducible assumption) | assumption)
                  have q10 : x19_1 < (a0.size : Int) := of_decide_eq_true (by first | (with_reducible assumption) | assumption)
                  have hx10 := bt_at a0 x19_1
                  replace p10 := eq_true p10
                  replace q10 := eq_true q10
                  go_wp2
                  go_loopg [5, 6, 7] k1 (fun kq v5 v6 v7 w' => ∃ (x4_2 : List Int) (x5_2 : Int) (x6_2 : Int) (x7_2 : Int), v5 = .int .u64 x5_2 ∧ v6 = .int .u64 x6_2 ∧ v7 = .int .i64 x7_2 ∧ Aside0 (radix_Base32.l1 kq a0 x4_2 x5_2 x6_2 x7_2 (a0.size : Int) x19_1 = some r) ∧ Aside0 (kq ≤ k1) ∧ Aside0 (Kd.R (Kd.int .u8) 5 w' w.heap.size (fun _ => True) v107 x4_2) ∧ Aside0 (Below w.heap.size w w'))
                  case atStart => exact ⟨(x4_1), (Go.bits .or .u64 x5_1 (ji12)), (IntKind.u64.wrap (x6_1 + 8)), (x7_1), (by first | rfl | (simp; done) | (simp only [← hji12] <;> (first | rfl | simp)) | (simp [*]; done)), (by first | rfl | (simp; done) | (simp [*]; done)), (by first | rfl | (simp; done) | (simp [*]; done)), H', ⟨Nat.le_refl _⟩, ⟨by (with_reducible repeat (first | apply Kd.R_alloc | apply Kd.R_drewN | apply Kd.R_drew)); exact HO_4.out⟩, ⟨by repeat (first | (with_reducible first | exact HB.out | apply below_alloc | apply pw_below_drewN | apply below_drew1) | exact HB.out)⟩⟩
                  case round =>
                    clear H'
                    try clear c1
                    try clear p1
                    try clear q1
                    try clear hx1
                    try clear p2
                    try clear c3
                    try clear c3b0
                    try clear c3b1
                    try clear c4
                    try clear c4b0
                    try clear c4b1
                    try clear p6
                    try clear c7
                    try clear c7b0
                    try clear c8
                    try clear c8b0
                    try clear c9
                    try clear c9b0
                    try clear p10
                    try clear q10
                    try clear hx10
                    try clear c11
                    try clear c11b0
                    try clear c11b1
                    try clear p10
                    try clear p2
                    try clear p6
                    try clear q10
                    obtain ⟨x4_2, x5_2, x6_2, x7_2, rfl, rfl, rfl, HA, HK2, HO_4, HB⟩ := hrel
                    cases gk with
                    | zero => exact absurd HA.out (by simp [radix_Base32.l1])
                    | succ k2 =>
                      have H := HA.out
                      clear HA
                      simp only [radix_Base32.l1] at H
                      by_cases c13 : x6_2 ≥ 5
                      · rw [if_pos c13] at H
                        have c13b0 : decide (5 ≤ x6_2) = true := decide_eq_true c13
                        clear c13
                        by_cases c14 : 0 ≤ (Go.bits .and .u64 x5_2 31)
                        · rw [if_pos c14] at H
                          have c14b0 : decide (0 ≤ (Go.bits .and .u64 x5_2 31)) = true := decide_eq_true c14
                          clear c14
                          by_cases c15 : (Go.bits .and .u64 x5_2 31) < 32
                          · rw [if_pos c15] at H
                            have c15b0 : decide ((Go.bits .and .u64 x5_2 31) < 32) = true := decide_eq_true c15
                            clear c15
                            obtain ⟨ji17, hji17⟩ : ∃ j_ : Int, (wrap64 (x7_2 - 1)) = j_ := ⟨_, rfl⟩
                            replace H : (if 0 ≤ (ji17) then (if (ji17) < (x4_2.length : Int) then (radix_Base32.l1 k2 a0 (x4_2.set ((ji17) : Int).toNat (bt (⟨#[48, 49, 50, 51, 52, 53, 54, 55, 56, 57, 97, 98, 99, 100, 102, 103, 104, 105, 106, 107, 108, 109, 110, 112, 113, 114, 115, 118, 119, 120, 121, 122]⟩ : ByteArray) (Go.bits .and .u64 x5_2 31))) (x5_2 / 32) (IntKind.u64.wrap (x6_2 - 5)) ji17 (a0.size : Int) x19_1) else (none)) else (none)) = some r := by first | (rw [hji17] at H; exact H) | (simp only [hji17] at H ⊢; exact H)
                            have hji17w : (IntKind.i64.wrap (x7_2 - 1)) = ji17 := (i64_w _).trans hji17
                            by_cases c18 : 0 ≤ (ji17)
                            · rw [if_pos c18] at H
                              have c18b0 : decide (0 ≤ (ji17)) = true := decide_eq_true c18
                              clear c18
                              by_cases c19 : (ji17) < (x4_2.length : Int)
                              · rw [if_pos c19] at H
                                have c19b0 : decide ((ji17) < (x4_2.length : Int)) = true := decide_eq_true c19
                                clear c19
                                obtain ⟨y110, hy110⟩ : ∃ y_ : List Int, y_ = (x4_2.set ((ji17) : Int).toNat (bt (⟨#[48, 49, 50, 51, 52, 53, 54, 55, 56, 57, 97, 98, 99, 100, 102, 103, 104, 105, 106, 107, 108, 109, 110, 112, 113, 114, 115, 118, 119, 120, 121, 122]⟩ : ByteArray) (Go.bits .and .u64 x5_2 31))) := ⟨_, rfl⟩
                                replace H : (radix_Base32.l1 k2 a0 y110 (x5_2 / 32) (IntKind.u64.wrap (x6_2 - 5)) ji17 (a0.size : Int) x19_1) = some r := by first | (rw [hy110]; with_reducible exact H) | (have H2_ := (Option.bind_some _ _).symm.trans H; rw [hy110]; with_reducible exact H2_) | (have H2_ := (Option.bind_some _ _).symm.trans H; with_reducible exact H2_) | with_reducible exact H | (rw [hy110]; exact H) | exact H
                                have Ny110 := Aside0.mk hy110
                                clear hy110
                                have H' := Aside0.mk H
                                clear H
                                have p16 : 0 ≤ ((Go.bits .and .u64 x5_2 31) : Int) := of_decide_eq_true (by first | (with_reducible assumption) | assumption)
                                have q16 : (Go.bits .and .u64 x5_2 31) < (32 : Int) := of_decide_eq_true (by first | (with_reducible assumption) | assumption)
                                have hx16 := bt_at (⟨#[48, 49, 50, 51, 52, 53, 54, 55, 56, 57, 97, 98, 99, 100, 102, 103, 104, 105, 106, 107, 108, 109, 110, 112, 113, 114, 115, 118, 119, 120, 121, 122]⟩ : ByteArray) (Go.bits .and .u64 x5_2 31)
                                replace p16 := eq_true p16
                                replace q16 := eq_true q16
                                have p20 : 0 ≤ ((ji17) : Int) := of_decide_eq_true (by first | (with_reducible assumption) | assumption)
                                have q20 : ((ji17) : Int) < ((x4_2.length : Int) : Int) := of_decide_eq_true (by first | (with_reducible assumption) | assumption)
                                obtain ⟨go20, co20, eo20, gb20, gl20, cl20, HG20⟩ := Kd.R_form HO_4.out (by omega)
                                (first | cases eo20 | (injection eo20 with ea_ en_ ec_; (first | subst ea_ | (injection ea_ with ea_; subst ea_)); subst ec_; clear en_))
                                have GB20 := Aside0.mk gb20
                                have GG20 := Aside0.mk HG20
                                clear gb20 gl20 HG20
                                obtain ⟨hx20_0, hf20_0⟩ := Kd.R_celln 0 HO_4.out ((ji17) : Int) p20 q20
                                replace p20 := eq_true p20
                                replace q20 := eq_true q20
                                have HP21 := Kd.R_putg HO_4.out ((ji17) : Int) (bt (⟨#[48, 49, 50, 51, 52, 53, 54, 55, 56, 57, 97, 98, 99, 100, 102, 103, 104, 105, 106, 107, 108, 109, 110, 112, 113, 114, 115, 118, 119, 120, 121, 122]⟩ : ByteArray) (Go.bits .and .u64 x5_2 31))
                                go_wp2_with (first | ((with_reducible refine gate_store (t := 5) (p := 41) rfl ?_); refine store_event (t := 5) (p := 41) (v := ?vo_w22) (w1 := (wr.setCell ⟨go20, ((ji17) : Int).toNat, none⟩ (.int .u8 (bt (⟨#[48, 49, 50, 51, 52, 53, 54, 55, 56, 57, 97, 98, 99, 100, 102, 103, 104, 105, 106, 107, 108, 109, 110, 112, 113, 114, 115, 118, 119, 120, 121, 122]⟩ : ByteArray) (Go.bits .and .u64 x5_2 31))))) ?hg ?ho ?hn ?hr ?_; (case ho => rfl); (case hg => rfl); (case hn => rfl); (case hr => first | (go_simp; done) | (go_simp; rfl)); intro w22 hw; have hg : wr.grownBy w22 (some go20) := (by rw [hw]; exact HP21.2); have hp_ : Kd.R (Kd.int .u8) 5 w22 w.heap.size (fun _ => True) (.slice (some ⟨go20, 0, none⟩) x4_2.length co20) y110 := (by rw [hw, Ny110.out]; exact HP21.1); clear HP21; have n0_ := Aside0.mk (hp_); have n1_ := Aside0.mk ((by rw [hw]; exact below_set (HB.out) GB20.out : Below w.heap.size w w22)); clear HO_4; clear HB; have HO_4 := n0_; have HB := n1_; clear n0_ n1_; clear hg hw hp_))
                                go_roundg k2
                                case measure => have := HK1.out; have := HK2.out; omega
                                case rel => exact ⟨(y110), (x5_2 / 32), (IntKind.u64.wrap (x6_2 - 5)), (ji17), (by first | rfl | (simp; done) | (simp [*]; done)), (by first | rfl | (simp; done) | (simp [*]; done)), (by first | rfl | (simp; done) | (simp only [← hji17] <;> (first | rfl | simp)) | (simp [*]; done)), H', ⟨by have := HK1.out; have := HK2.out; omega⟩, ⟨by (with_reducible repeat (first | apply Kd.R_alloc | apply Kd.R_drewN | apply Kd.R_drew)); exact HO_4.out⟩, ⟨by repeat (first | (with_reducible first | exact HB.out | apply below_alloc | apply pw_below_drewN | apply below_drew1) | exact HB.out)⟩⟩
                              · rw [if_neg c19] at H
                                exact absurd H (by simp)
                            · rw [if_neg c18] at H
                              exact absurd H (by simp)
                          · rw [if_neg c15] at H
                            exact absurd H (by simp)
                        · rw [if_neg c14] at H
                          exact absurd H (by simp)
                      · rw [if_neg c13] at H
                        have c13b0 : decide (5 ≤ x6_2) = false := decide_eq_false c13
                        clear c13
                        have H' := Aside0.mk H
                        clear H
                        go_wp2
                        go_roundg k2
                        case measure => have := HK1.out; have := HK2.out; omega
                        case rel => exact ⟨(x4_2), (x5_2), (x6_2), (x7_2), (wrap64 (x19_1 + 1)), (by first | rfl | (simp; done) | (simp [*]; done)), (by first | rfl | (simp; done) | (simp [*]; done)), (by first | rfl | (simp; done) | (simp [*]; done)), (by first | rfl | (simp; done) | (simp [*]; done)), H', ⟨by have := HK1.out; have := HK2.out; omega⟩, ⟨by (with_reducible repeat (first | apply Kd.R_alloc | apply Kd.R_drewN | apply Kd.R_drew)); exact HO_4.out⟩, ⟨by repeat (first | (with_reducible first | exact HB.out | apply below_alloc | apply pw_below_drewN | apply below_drew1) | exact HB.out)⟩⟩
                · rw [if_neg c11] at H
                  exact absurd H (by simp)
              · rw [if_neg c9] at H
                exact absurd H (by simp)
            · rw [if_neg c8] at H
              exact absurd H (by simp)
          · rw [if_neg c7] at H
            have c7b0 : decide (x19_1 < (a0.size : Int)) = false := decide_eq_false c7
            clear c7
            by_cases c23 : x6_1 > 0
            · rw [if_pos c23] at H
              have c23b0 : decide (0 < x6_1) = true := decide_eq_true c23
              clear c23
              by_cases c24 : 0 ≤ (Go.bits .and .u64 x5_1 31)
              · rw [if_pos c24] at H
                have c24b0 : decide (0 ≤ (Go.bits .and .u64 x5_1 31)) = true := decide_eq_true c24
                clear c24
                by_cases c25 : (Go.bits .and .u64 x5_1 31) < 32
                · rw [if_pos c25] at H
                  have c25b0 : decide ((Go.bits .and .u64 x5_1 31) < 32) = true := decide_eq_true c25
                  clear c25
                  obtain ⟨ji27, hji27⟩ : ∃ j_ : Int, (wrap64 (x7_1 - 1)) = j_ := ⟨_, rfl⟩
                  replace H : (if 0 ≤ (ji27) then (if (ji27) < (x4_1.length : Int) then (some (strOfNums (x4_1.set ((ji27) : Int).toNat (bt (⟨#[48, 49, 50, 51, 52, 53, 54, 55, 56, 57, 97, 98, 99, 100, 102, 103, 104, 105, 106, 107, 108, 109, 110, 112, 113, 114, 115, 118, 119, 120, 121, 122]⟩ : ByteArray) (Go.bits .and .u64 x5_1 31))))) else (none)) else (none)) = some r := by first | (rw [hji27] at H; exact H) | (simp only [hji27] at H ⊢; exact H)
                  have hji27w : (IntKind.i64.wrap (x7_1 - 1)) = ji27 := (i64_w _).trans hji27
                  by_cases c28 : 0 ≤ (ji27)
                  · rw [if_pos c28] at H
                    have c28b0 : decide (0 ≤ (ji27)) = true := decide_eq_true c28
                    clear c28
                    by_cases c29 : (ji27) < (x4_1.length : Int)
                    · rw [if_pos c29] at H
                      have c29b0 : decide ((ji27) < (x4_1.length : Int)) = true := decide_eq_true c29
                      clear c29
                      obtain ⟨y109, hy109⟩ : ∃ y_ : List Int, y_ = (x4_1.set ((ji27) : Int).toNat (bt (⟨#[48, 49, 50, 51, 52, 53, 54, 55, 56, 57, 97, 98, 99, 100, 102, 103, 104, 105, 106, 107, 108, 109, 110, 112, 113, 114, 115, 118, 119, 120, 121, 122]⟩ : ByteArray) (Go.bits .and .u64 x5_1 31))) := ⟨_, rfl⟩
                      replace H : (some (strOfNums y109)) = some r := by first | (rw [hy109]; with_reducible exact H) | (have H2_ := (Option.bind_some _ _).symm.trans H; rw [hy109]; with_reducible exact H2_) | (have H2_ := (Option.bind_some _ _).symm.trans H; with_reducible exact H2_) | with_reducible exact H | (rw [hy109]; exact H) | exact H
                      have Ny109 := Aside0.mk hy109
                      clear hy109
                      obtain rfl := Option.some.inj H
                      have p26 : 0 ≤ ((Go.bits .and .u64 x5_1 31) : Int) := of_decide_eq_true (by first | (with_reducible assumption) | assumption)
                      have q26 : (Go.bits .and .u64 x5_1 31) < (32 : Int) := of_decide_eq_true (by first | (with_reducible assumption) | assumption)
                      have hx26 := bt_at (⟨#[48, 49, 50, 51, 52, 53, 54, 55, 56, 57, 97, 98, 99, 100, 102, 103, 104, 105, 106, 107, 108, 109, 110, 112, 113, 114, 115, 118, 119, 120, 121, 122]⟩ : ByteArray) (Go.bits .and .u64 x5_1 31)
                      replace p26 := eq_true p26
                      replace q26 := eq_true q26
                      have p30 : 0 ≤ ((ji27) : Int) := of_decide_eq_true (by first | (with_reducible assumption) | assumption)
                      have q30 : ((ji27) : Int) < ((x4_1.length : Int) : Int) := of_decide_eq_true (by first | (with_reducible assumption) | assumption)
                      obtain ⟨go30, co30, eo30, gb30, gl30, cl30, HG30⟩ := Kd.R_form HO_4.out (by omega)
                      (first | cases eo30 | (injection eo30 with ea_ en_ ec_; (first | subst ea_ | (injection ea_ with ea_; subst ea_)); subst ec_; clear en_))
                      have GB30 := Aside0.mk gb30
                      have GG30 := Aside0.mk HG30
                      clear gb30 gl30 HG30
                      obtain ⟨hx30_0, hf30_0⟩ := Kd.R_celln 0 HO_4.out ((ji27) : Int) p30 q30
                      replace p30 := eq_true p30
                      replace q30 := eq_true q30
                      have HP31 := Kd.R_putg HO_4.out ((ji27) : Int) (bt (⟨#[48, 49, 50, 51, 52, 53, 54, 55, 56, 57, 97, 98, 99, 100, 102, 103, 104, 105, 106, 107, 108, 109, 110, 112, 113, 114, 115, 118, 119, 120, 121, 122]⟩ : ByteArray) (Go.bits .and .u64 x5_1 31))
                      go_wp2_with (first | ((with_reducible refine gate_store (t := 5) (p := 56) rfl ?_); refine store_event (t := 5) (p := 56) (v := ?vo_w32) (w1 := (wr.setCell ⟨go30, ((ji27) : Int).toNat, none⟩ (.int .u8 (bt (⟨#[48, 49, 50, 51, 52, 53, 54, 55, 56, 57, 97, 98, 99, 100, 102, 103, 104, 105, 106, 107, 108, 109, 110, 112, 113, 114, 115, 118, 119, 120, 121, 122]⟩ : ByteArray) (Go.bits .and .u64 x5_1 31))))) ?hg ?ho ?hn ?hr ?_; (case ho => rfl); (case hg => rfl); (case hn => rfl); (case hr => first | (go_simp; done) | (go_simp; rfl)); intro w32 hw; have hg : wr.grownBy w32 (some go30) := (by rw [hw]; exact HP31.2); have hp_ : Kd.R (Kd.int .u8) 5 w32 w.heap.size (fun _ => True) (.slice (some ⟨go30, 0, none⟩) x4_1.length co30) y109 := (by rw [hw, Ny109.out]; exact HP31.1); clear HP31; have n0_ := Aside0.mk (hp_); have n1_ := Aside0.mk ((by rw [hw]; exact below_set (HB.out) GB30.out : Below w.heap.size w w32)); clear HO_4; clear HB; have HO_4 := n0_; have HB := n1_; clear n0_ n1_; clear hg hw hp_; have hcv33 := own_string (P := Tryd.prog) Tryd.underlying34 Tryd.underlying5 Tryd.underlying9 (Kd.own_of_R HO_4.out)))
                      go_ret
                      exact ⟨by first | rfl | (simp [errW_none, errW_some] <;> rfl) | (simp only [← hji2, ← hji27]; first | rfl | (simp [errW_none, errW_some] <;> rfl)) | (simp [*, errW_none, errW_some] <;> rfl), by repeat (first | (with_reducible first | exact HB.out | apply below_alloc | apply pw_below_drewN | apply below_drew1) | exact HB.out)⟩
                    · rw [if_neg c29] at H
                      exact absurd H (by simp)
                  · rw [if_neg c28] at H
                    exact absurd H (by simp)
                · rw [if_neg c25] at H
                  exact absurd H (by simp)
              · rw [if_neg c24] at H
                exact absurd H (by simp)
            · rw [if_neg c23] at H
              have c23b0 : decide (0 < x6_1) = false := decide_eq_false c23
              clear c23
              obtain rfl := Option.some.inj H
              have hcv34 := own_string (P := Tryd.prog) Tryd.underlying34 Tryd.underlying5 Tryd.underlying9 (Kd.own_of_R HO_4.out)
              go_wp2
              go_ret
              exact ⟨by first | rfl | (simp [errW_none, errW_some] <;> rfl) | (simp only [← hji2]; first | rfl | (simp [errW_none, errW_some] <;> rfl)) | (simp [*, errW_none, errW_some] <;> rfl), by repeat (first | (with_reducible first | exact HB.out | apply below_alloc | apply pw_below_drewN | apply below_drew1) | exact HB.out)⟩
    · rw [if_neg c4] at H
      exact absurd H (by simp)
  · rw [if_neg c3] at H
    exact absurd H (by simp)

end Go.Proofs.YtdjhhljijpadoaaDoor.Q
/- By a program of this session's: a plain Lean function for a Go function, and its contract. -/
namespace Go.Proofs.YtdjhhljijpadoaaDoor.Q
open Go.RowKit Go.Proofs.YtdjhhljijpadoaaDoorW.PrintWords Go.Proofs.YtdjhhljijpadoaaDoorW.PrintLast Go.Proofs.YtdjhhljijpadoaaDoorW.PrintMore
attribute [local go_sem] max2_int min2_int max_two min_two max_three min_three max_four min_four Go.Proofs.YtdjhhljijpadoaaDoor.Ord.str_leq Go.Proofs.YtdjhhljijpadoaaDoor.Ord.str_gtr Go.Proofs.YtdjhhljijpadoaaDoor.Ord.str_geq   -- for this text's walks alone
set_option linter.unusedVariables false
set_option linter.unusedSimpArgs false

/-! ### depotref02_bits: function 31 -/
mutual
def depotref02_bits.l0 : Nat → ByteArray → List Int → Int → Option (List Int)
  | 0, _, _, _ => none
  | k + 1, x0, x3, x4 => if x4 < (x0.size : Int) then (if 0 ≤ x4 then (depotref02_bits.l1 k x0 x3 x4 (wrap64 (bt x0 x4)) 0) else (none)) else (some x3)
def depotref02_bits.l1 : Nat → ByteArray → List Int → Int → Int → Int → Option (List Int)
  | 0, _, _, _, _, _ => none
  | k + 1, x0, x3, x4, x5, x6 => if x6 < 8 then (if x3.length < 17592186044416 then (depotref02_bits.l1 k x0 (x3 ++ [Int.tmod x5 2]) x4 (wrap64 (Int.tdiv x5 2)) (wrap64 (x6 + 1))) else (none)) else (depotref02_bits.l0 k x0 x3 (wrap64 (x4 + 1)))
end
def depotref02_bits.f (k : Nat) (a0 : ByteArray) : Option (List Int) := depotref02_bits.l0 k a0 ([] : List Int) 0
theorem depotref02_bits.mono_l : ∀ k, (∀ y0 y1 y2, LeO (depotref02_bits.l0 k y0 y1 y2) (depotref02_bits.l0 (k + 1) y0 y1 y2)) ∧ (∀ y0 y1 y2 y3 y4, LeO (depotref02_bits.l1 k y0 y1 y2 y3 y4) (depotref02_bits.l1 (k + 1) y0 y1 y2 y3 y4))
  | 0 => ⟨fun _ _ _ r h => by simp [depotref02_bits.l0] at h, fun _ _ _ _ _ r h => by simp [depotref02_bits.l1] at h⟩
  | k + 1 => by
    obtain ⟨ih0, ih1⟩ := depotref02_bits.mono_l k
    refine ⟨?_, ?_⟩
    · intro y0 y1 y2
      unfold depotref02_bits.l0
      repeat' first
      | (with_reducible exact ih0 _ _ _)
      | (with_reducible exact ih1 _ _ _ _ _)
      | (with_reducible exact LeO.refl _)
      | (with_reducible exact LeO.none _)
      | (with_reducible refine LeO.ite ?_ ?_)
      | (with_reducible refine LeO.bind ?_ (fun _ => ?_))
      | exact ih0 _ _ _
      | exact ih1 _ _ _ _ _
      | exact LeO.none _
      | refine LeO.ite ?_ ?_
      | refine LeO.bind ?_ (fun _ => ?_)
    · intro y0 y1 y2 y3 y4
      unfold depotref02_bits.l1
      repeat' first
      | (with_reducible exact ih0 _ _ _)
      | (with_reducible exact ih1 _ _ _ _ _)
      | (with_reducible exact LeO.refl _)
      | (with_reducible exact LeO.none _)
      | (with_reducible refine LeO.ite ?_ ?_)
      | (with_reducible refine LeO.bind ?_ (fun _ => ?_))
      | exact ih0 _ _ _
      | exact ih1 _ _ _ _ _
      | exact LeO.none _
      | refine LeO.ite ?_ ?_
      | refine LeO.bind ?_ (fun _ => ?_)
theorem depotref02_bits.mono : ∀ a0 k, LeO (depotref02_bits.f k a0) (depotref02_bits.f (k + 1) a0) := by
  intro a0 k
  obtain ⟨ih0, ih1⟩ := depotref02_bits.mono_l k
  unfold depotref02_bits.f
  repeat' first
      | (with_reducible exact ih0 _ _ _)
      | (with_reducible exact ih1 _ _ _ _ _)
      | (with_reducible exact LeO.refl _)
      | (with_reducible exact LeO.none _)
      | (with_reducible refine LeO.ite ?_ ?_)
      | (with_reducible refine LeO.bind ?_ (fun _ => ?_))
      | exact ih0 _ _ _
      | exact ih1 _ _ _ _ _
      | exact LeO.none _
      | refine LeO.ite ?_ ?_
      | refine LeO.bind ?_ (fun _ => ?_)
set_option maxHeartbeats 8000000 in
set_option maxRecDepth 100000 in
theorem depotref02_bits.calls (k : Nat) (a0 : ByteArray) (r : List Int) (w : World) (h : depotref02_bits.f k a0 = some r) :
    Calls Tryd.prog 31 #[.string a0] w fun e w' => ∃ v0_ : Value, e = .returned (v0_) ∧ Kd.R (Kd.int .i64) 3 w' w.heap.size (fun _ => True) v0_ r ∧ Below w.heap.size w w' := by
  have HB := Aside0.mk (Below.refl w.heap.size w)
  have H : (depotref02_bits.l0 k a0 ([] : List Int) 0) = some r := h
  clear h
  have H' := Aside0.mk H
  clear H
  go_enter Tryd.func31, Tryd.ntmps31
  go_wp2
  go_loopg [3, 4] k (fun kq v3 v4 w' => ∃ (x3_1 : List Int) (x4_1 : Int), v4 = .int .i64 x4_1 ∧ Aside0 (depotref02_bits.l0 kq a0 x3_1 x4_1 = some r) ∧ Aside0 (kq ≤ k) ∧ Aside0 (Kd.R (Kd.int .i64) 3 w' w.heap.size (fun _ => True) v3 x3_1) ∧ Aside0 (Below w.heap.size w w'))
  case atStart => exact ⟨(([] : List Int)), (0), (by first | rfl | (simp; done) | (simp [*]; done)), H', ⟨Nat.le_refl _⟩, ⟨by first | exact Kd.R_nil _ _ _ _ _ | exact Kd.N_nil _ _ _ _ _ | exact Kd.V_nil _ _ _ _ _ | exact Kd.Q_nil _ _ _ _ _ | exact Kd.S_nil _ _ _ _ _⟩, ⟨by repeat (first | (with_reducible first | exact HB.out | apply below_alloc | apply pw_below_drewN | apply below_drew1) | exact HB.out)⟩⟩
  case round =>
    clear H'
    obtain ⟨x3_1, x4_1, rfl, HA, HK1, HO_3, HB⟩ := hrel
    cases gk with
    | zero => exact absurd HA.out (by simp [depotref02_bits.l0])
    | succ k1 =>
      have H := HA.out
      clear HA
      simp only [depotref02_bits.l0] at H
      by_cases c2 : x4_1 < (a0.size : Int)
      · rw [if_pos c2] at H
        have c2b0 : decide (x4_1 < (a0.size : Int)) = true := decide_eq_true c2
        clear c2
        by_cases c3 : 0 ≤ x4_1
        · rw [if_pos c3] at H
          have c3b0 : decide (0 ≤ x4_1) = true := decide_eq_true c3
          clear c3
          have H' := Aside0.mk H
          clear H
          have p4 : 0 ≤ (x4_1 : Int) := of_decide_eq_true (by first | (with_reducible assumption) | assumption)
          have q4 : x4_1 < (a0.size : Int) := of_decide_eq_true (by first | (with_reducible assumption) | assumption)
          have hx4 := bt_at a0 x4_1
          replace p4 := eq_true p4
          replace q4 := eq_true q4
          go_wp2
          go_loopg [3, 5, 6] k1 (fun kq v3 v5 v6 w' => ∃ (x3_2 : List Int) (x5_2 : Int) (x6_2 : Int), v5 = .int .i64 x5_2 ∧ v6 = .int .i64 x6_2 ∧ Aside0 (depotref02_bits.l1 kq a0 x3_2 x4_1 x5_2 x6_2 = some r) ∧ Aside0 (kq ≤ k1) ∧ Aside0 (Kd.R (Kd.int .i64) 3 w' w.heap.size (fun _ => True) v3 x3_2) ∧ Aside0 (Below w.heap.size w w'))
          case atStart => exact ⟨(x3_1), (wrap64 (bt a0 x4_1)), (0), (by first | rfl | (simp; done) | (simp [*]; done)), (by first | rfl | (simp; done) | (simp [*]; done)), H', ⟨Nat.le_refl _⟩, ⟨by (with_reducible repeat (first | apply Kd.R_alloc | apply Kd.R_drewN | apply Kd.R_drew)); exact HO_3.out⟩, ⟨by repeat (first | (with_reducible first | exact HB.out | apply below_alloc | apply pw_below_drewN | apply below_drew1) | exact HB.out)⟩⟩
          case round =>
            clear H'
            try clear c2
            try clear c2b0
            try clear p2
            try clear c3
            try clear c3b0
            try clear p4
            try clear q4
            try clear hx4
            try clear p4
            try clear q4
            obtain ⟨x3_2, x5_2, x6_2, rfl, rfl, HA, HK2, HO_3, HB⟩ := hrel
            cases gk with
            | zero => exact absurd HA.out (by simp [depotref02_bits.l1])
            | succ k2 =>
              have H := HA.out
              clear HA
              simp only [depotref02_bits.l1] at H
              by_cases c5 : x6_2 < 8
              · rw [if_pos c5] at H
                have c5b0 : decide (x6_2 < 8) = true := decide_eq_true c5
                clear c5
                by_cases c6 : x3_2.length < 17592186044416
                · rw [if_pos c6] at H
                  have LMc6 := Aside0.mk c6
                  clear c6
                  obtain ⟨y151, hy151⟩ : ∃ y_ : List Int, y_ = (x3_2 ++ [Int.tmod x5_2 2]) := ⟨_, rfl⟩
                  replace H : (depotref02_bits.l1 k2 a0 y151 x4_1 (wrap64 (Int.tdiv x5_2 2)) (wrap64 (x6_2 + 1))) = some r := by first | (rw [hy151]; with_reducible exact H) | (have H2_ := (Option.bind_some _ _).symm.trans H; rw [hy151]; with_reducible exact H2_) | (have H2_ := (Option.bind_some _ _).symm.trans H; with_reducible exact H2_) | with_reducible exact H | (rw [hy151]; exact H) | exact H
                  have Ny151 := Aside0.mk hy151
                  clear hy151
                  have H' := Aside0.mk H
                  clear H
                  go_wp2_with (first | ((with_reducible refine gate_builtin (b := .append) (xs := #[.tmp 21, .tmp 24]) rfl ?_); at_builtin; refine Kd.R_append (Kd.int .i64) (w0 := w) w.heap.size rfl (.tmp 21) (.tmp 24) 64 3 (.int .i64 0) 8 rfl Tryd.underlying64 info3 rfl (by decide) (by omega) u3 x3_2 (Int.tmod x5_2 2) [.int .i64 (Int.tmod x5_2 2)] (fun _ => True) (fun _ => False) rfl rfl ?aP (fun _ hk => hk.elim) ?aF ?aO ?aB ?aS ?aL ?_; (case aP => exact rfl); (case aB => exact (by repeat (first | (with_reducible first | exact HB.out | apply below_alloc | apply pw_below_drewN | apply below_drew1) | exact HB.out))); (case aF => exact (fun _ _ => trivial)); (case aO => exact (by (with_reducible repeat (first | apply Kd.R_alloc | apply Kd.R_drewN | apply Kd.R_drew)); exact HO_3.out)); (case aS => exact (below_size (by repeat (first | (with_reducible first | exact HB.out | apply below_alloc | apply pw_below_drewN | apply below_drew1) | exact HB.out)))); (case aL => have := LMc6.out; omega); intro v152 w7 ho hb hg hat; rw [← Ny151.out] at ho; have n0_ := Aside0.mk (hb); have n1_ := Aside0.mk (ho); clear HB; clear HO_3; have HB := n0_; have HO153 := n1_; clear n0_ n1_; clear ho hb hg hat))
                  go_roundg k2
                  case measure => have := HK1.out; have := HK2.out; omega
                  case rel => exact ⟨(y151), (wrap64 (Int.tdiv x5_2 2)), (wrap64 (x6_2 + 1)), (by first | rfl | (simp; done) | (simp [*]; done)), (by first | rfl | (simp; done) | (simp [*]; done)), H', ⟨by have := HK1.out; have := HK2.out; omega⟩, ⟨by (with_reducible repeat (first | apply Kd.R_alloc | apply Kd.R_drewN | apply Kd.R_drew)); exact HO153.out⟩, ⟨by repeat (first | (with_reducible first | exact HB.out | apply below_alloc | apply pw_below_drewN | apply below_drew1) | exact HB.out)⟩⟩
                · rw [if_neg c6] at H
                  exact absurd H (by simp)
              · rw [if_neg c5] at H
                have c5b0 : decide (x6_2 < 8) = false := decide_eq_false c5
                clear c5
                have H' := Aside0.mk H
                clear H
                go_wp2
                go_roundg k2
                case measure => have := HK1.out; have := HK2.out; omega
                case rel => exact ⟨(x3_2), (wrap64 (x4_1 + 1)), (by first | rfl | (simp; done) | (simp [*]; done)), H', ⟨by have := HK1.out; have := HK2.out; omega⟩, ⟨by (with_reducible repeat (first | apply Kd.R_alloc | apply Kd.R_drewN | apply Kd.R_drew)); exact HO_3.out⟩, ⟨by repeat (first | (with_reducible first | exact HB.out | apply below_alloc | apply pw_below_drewN | apply below_drew1) | exact HB.out)⟩⟩
        · rw [if_neg c3] at H
          exact absurd H (by simp)
      · rw [if_neg c2] at H
        have c2b0 : decide (x4_1 < (a0.size : Int)) = false := decide_eq_false c2
        clear c2
        obtain rfl := Option.some.inj H
        go_wp2
        go_ret
        exact ⟨_, by first | rfl | (simp [errW_none, errW_some] <;> rfl) | (simp [*, errW_none, errW_some] <;> rfl), by (with_reducible repeat (first | apply Kd.R_alloc | apply Kd.R_drewN | apply Kd.R_drew)); exact HO_3.out, by repeat (first | (with_reducible first | exact HB.out | apply below_alloc | apply pw_below_drewN | apply below_drew1) | exact HB.out)⟩

end Go.Proofs.YtdjhhljijpadoaaDoor.Q
/- By a program of this session's: a plain Lean function for a Go function, and its contract. -/
namespace Go.Proofs.YtdjhhljijpadoaaDoor.Q
open Go.RowKit Go.Proofs.YtdjhhljijpadoaaDoorW.PrintWords Go.Proofs.YtdjhhljijpadoaaDoorW.PrintLast Go.Proofs.YtdjhhljijpadoaaDoorW.PrintMore
attribute [local go_sem] max2_int min2_int max_two min_two max_three min_three max_four min_four Go.Proofs.YtdjhhljijpadoaaDoor.Ord.str_leq Go.Proofs.YtdjhhljijpadoaaDoor.Ord.str_gtr Go.Proofs.YtdjhhljijpadoaaDoor.Ord.str_geq   -- for this text's walks alone
set_option linter.unusedVariables false
set_option linter.unusedSimpArgs false

/-! ### depotref02_Base32: function 19 -/
mutual
def depotref02_Base32.l0 : Nat → List Int → List Int → Int → Option (ByteArray)
  | 0, _, _, _ => none
  | k + 1, x3, x4, x5 => if x5 < (x3.length : Int) then (depotref02_Base32.l1 k x3 x4 x5 0 4) else (if 0 ≤ (x4.length : Int) then (if ((x4.length : Int) : Int).toNat ≤ 281474976710656 then (depotref02_Base32.l2 k x4 (List.replicate ((x4.length : Int) : Int).toNat 0) 0) else (none)) else (none))
def depotref02_Base32.l1 : Nat → List Int → List Int → Int → Int → Int → Option (ByteArray)
  | 0, _, _, _, _, _ => none
  | k + 1, x3, x4, x5, x6, x7 => if x7 ≥ 0 then (if (wrap64 (x5 + x7)) < (x3.length : Int) then (if 0 ≤ (wrap64 (x5 + x7)) then (depotref02_Base32.l1 k x3 x4 x5 (wrap64 ((wrap64 (x6 * 2)) + (rd x3 (wrap64 (x5 + x7))))) (wrap64 (x7 - 1))) else (none)) else (depotref02_Base32.l1 k x3 x4 x5 (wrap64 (x6 * 2)) (wrap64 (x7 - 1)))) else (if 0 ≤ x6 then (if x6 < 32 then (if x4.length < 140737488355328 then (depotref02_Base32.l0 k x3 (x4 ++ [bt (⟨#[48, 49, 50, 51, 52, 53, 54, 55, 56, 57, 97, 98, 99, 100, 102, 103, 104, 105, 106, 107, 108, 109, 110, 112, 113, 114, 115, 118, 119, 120, 121, 122]⟩ : ByteArray) x6]) (wrap64 (x5 + 5))) else (none)) else (none)) else (none))
def depotref02_Base32.l2 : Nat → List Int → List Int → Int → Option (ByteArray)
  | 0, _, _, _ => none
  | k + 1, x4, x8, x9 => if x9 < (x4.length : Int) then (if 0 ≤ x9 then (if 0 ≤ (wrap64 ((wrap64 ((x4.length : Int) - 1)) - x9)) then (if (wrap64 ((wrap64 ((x4.length : Int) - 1)) - x9)) < (x8.length : Int) then (depotref02_Base32.l2 k x4 (x8.set ((wrap64 ((wrap64 ((x4.length : Int) - 1)) - x9)) : Int).toNat (rd x4 x9)) (wrap64 (x9 + 1))) else (none)) else (none)) else (none)) else (some (strOfNums x8))
end
def depotref02_Base32.f (k : Nat) (a0 : ByteArray) : Option (ByteArray) := (depotref02_bits.f k a0).bind fun t154 => (depotref02_Base32.l0 k t154 ([] : List Int) 0)
theorem depotref02_Base32.mono_l : ∀ k, (∀ y0 y1 y2, LeO (depotref02_Base32.l0 k y0 y1 y2) (depotref02_Base32.l0 (k + 1) y0 y1 y2)) ∧ (∀ y0 y1 y2 y3 y4, LeO (depotref02_Base32.l1 k y0 y1 y2 y3 y4) (depotref02_Base32.l1 (k + 1) y0 y1 y2 y3 y4)) ∧ (∀ y0 y1 y2, LeO (depotref02_Base32.l2 k y0 y1 y2) (depotref02_Base32.l2 (k + 1) y0 y1 y2))
  | 0 => ⟨fun _ _ _ r h => by simp [depotref02_Base32.l0] at h, fun _ _ _ _ _ r h => by simp [depotref02_Base32.l1] at h, fun _ _ _ r h => by simp [depotref02_Base32.l2] at h⟩
  | k + 1 => by
    obtain ⟨ih0, ih1, ih2⟩ := depotref02_Base32.mono_l k
    refine ⟨?_, ?_, ?_⟩
    · intro y0 y1 y2
      unfold depotref02_Base32.l0
      repeat' first
      | (with_reducible exact ih0 _ _ _)
      | (with_reducible exact ih1 _ _ _ _ _)
      | (with_reducible exact ih2 _ _ _)
      | (with_reducible exact depotref02_bits.mono _ _)
      | (with_reducible exact LeO.refl _)
      | (with_reducible exact LeO.none _)
      | (with_reducible refine LeO.ite ?_ ?_)
      | (with_reducible refine LeO.bind ?_ (fun _ => ?_))
      | exact ih0 _ _ _
      | exact ih1 _ _ _ _ _
      | exact ih2 _ _ _
      | exact depotref02_bits.mono _ _
      | exact LeO.none _
      | refine LeO.ite ?_ ?_
      | refine LeO.bind ?_ (fun _ => ?_)
    · intro y0 y1 y2 y3 y4
      unfold depotref02_Base32.l1
      repeat' first
      | (with_reducible exact ih0 _ _ _)
      | (with_reducible exact ih1 _ _ _ _ _)
      | (with_reducible exact ih2 _ _ _)
      | (with_reducible exact depotref02_bits.mono _ _)
      | (with_reducible exact LeO.refl _)
      | (with_reducible exact LeO.none _)
      | (with_reducible refine LeO.ite ?_ ?_)
      | (with_reducible refine LeO.bind ?_ (fun _ => ?_))
      | exact ih0 _ _ _
      | exact ih1 _ _ _ _ _
      | exact ih2 _ _ _
      | exact depotref02_bits.mono _ _
      | exact LeO.none _
      | refine LeO.ite ?_ ?_
      | refine LeO.bind ?_ (fun _ => ?_)
    · intro y0 y1 y2
      unfold depotref02_Base32.l2
      repeat' first
      | (with_reducible exact ih0 _ _ _)
      | (with_reducible exact ih1 _ _ _ _ _)
      | (with_reducible exact ih2 _ _ _)
      | (with_reducible exact depotref02_bits.mono _ _)
      | (with_reducible exact LeO.refl _)
      | (with_reducible exact LeO.none _)
      | (with_reducible refine LeO.ite ?_ ?_)
      | (with_reducible refine LeO.bind ?_ (fun _ => ?_))
      | exact ih0 _ _ _
      | exact ih1 _ _ _ _ _
      | exact ih2 _ _ _
      | exact depotref02_bits.mono _ _
      | exact LeO.none _
      | refine LeO.ite ?_ ?_
      | refine LeO.bind ?_ (fun _ => ?_)
theorem depotref02_Base32.mono : ∀ a0 k, LeO (depotref02_Base32.f k a0) (depotref02_Base32.f (k + 1) a0) := by
  intro a0 k
  obtain ⟨ih0, ih1, ih2⟩ := depotref02_Base32.mono_l k
  unfold depotref02_Base32.f
  repeat' first
      | (with_reducible exact ih0 _ _ _)
      | (with_reducible exact ih1 _ _ _ _ _)
      | (with_reducible exact ih2 _ _ _)
      | (with_reducible exact depotref02_bits.mono _ _)
      | (with_reducible exact LeO.refl _)
      | (with_reducible exact LeO.none _)
      | (with_reducible refine LeO.ite ?_ ?_)
      | (with_reducible refine LeO.bind ?_ (fun _ => ?_))
      | exact ih0 _ _ _
      | exact ih1 _ _ _ _ _
      | exact ih2 _ _ _
      | exact depotref02_bits.mono _ _
      | exact LeO.none _
      | refine LeO.ite ?_ ?_
      | refine LeO.bind ?_ (fun _ => ?_)
set_option maxHeartbeats 8000000 in
set_option maxRecDepth 100000 in
theorem depotref02_Base32.calls (k : Nat) (a0 : ByteArray) (r : ByteArray) (w : World) (h : depotref02_Base32.f k a0 = some r) :
    Calls Tryd.prog 19 #[.string a0] w fun e w' => e = .returned (.string r) ∧ Below w.heap.size w w' := by
  have HB := Aside0.mk (Below.refl w.heap.size w)
  have H : ((depotref02_bits.f k a0).bind fun t154 => (depotref02_Base32.l0 k t154 ([] : List Int) 0)) = some r := h
  clear h
  replace H := Option.bind_eq_some_iff.mp H
  obtain ⟨t154, A20, H⟩ := H
  replace H : (depotref02_Base32.l0 k t154 ([] : List Int) 0) = some r := H
  have A2 := Aside0.mk A20
  clear A20
  have H' := Aside0.mk H
  clear H
  go_enter Tryd.func19, Tryd.ntmps19
  go_wp2_with (first | ((with_reducible refine gate_callee (f := 31) rfl ?_); refine goesL_ (some 11) rfl rfl Tryd.func31 (by kernel_rfl) rfl #[.string a0] rfl (by (try simp only [List.map_toArray, List.map_cons, List.map_nil]); first | done | rfl | (simp only [List.length_drop, List.length_take]; rfl)) ?_; (with_reducible refine (depotref02_bits.calls k a0 t154 _ A2.out).mono ?_); rintro e w3 ⟨v155, rfl, ho0, hb⟩; refine ⟨_, rfl, ?_⟩; have n0_ := Aside0.mk (Kd.R_lower ho0 (below_size (by repeat (first | (with_reducible first | exact HB.out | apply below_alloc | apply pw_below_drewN | apply below_drew1) | exact HB.out)))); have n1_ := Aside0.mk (below_step (by repeat (first | (with_reducible first | exact HB.out | apply below_alloc | apply pw_below_drewN | apply below_drew1) | exact HB.out)) hb); clear HB; have HO156 := n0_; have HB := n1_; clear n0_ n1_; (try clear hb); (try clear hb2); (try clear hk); (try clear hi); (try clear ho0)))
  go_loopg [4, 5] k (fun kq v4 v5 w' => ∃ (x4_1 : List Int) (x5_1 : Int), v5 = .int .i64 x5_1 ∧ Aside0 (depotref02_Base32.l0 kq t154 x4_1 x5_1 = some r) ∧ Aside0 (kq ≤ k) ∧ Aside0 (Kd.R (Kd.int .i64) 3 w' w.heap.size (fun _ => True) v155 t154) ∧ Aside0 (Kd.R (Kd.int .u8) 5 w' w.heap.size (fun _ => True) v4 x4_1) ∧ Aside0 (Below w.heap.size w w'))
  case atStart => exact ⟨(([] : List Int)), (0), (by first | rfl | (simp; done) | (simp [*]; done)), H', ⟨Nat.le_refl _⟩, ⟨by (with_reducible repeat (first | apply Kd.R_alloc | apply Kd.R_drewN | apply Kd.R_drew)); exact HO156.out⟩, ⟨by first | exact Kd.R_nil _ _ _ _ _ | exact Kd.N_nil _ _ _ _ _ | exact Kd.V_nil _ _ _ _ _ | exact Kd.Q_nil _ _ _ _ _ | exact Kd.S_nil _ _ _ _ _⟩, ⟨by repeat (first | (with_reducible first | exact HB.out | apply below_alloc | apply pw_below_drewN | apply below_drew1) | exact HB.out)⟩⟩
  case round =>
    clear H'
    try clear c1
    try clear p2
    try clear c3
    obtain ⟨x4_1, x5_1, rfl, HA, HK1, HO_3, HO_4, HB⟩ := hrel
    cases gk with
    | zero => exact absurd HA.out (by simp [depotref02_Base32.l0])
    | succ k1 =>
      have H := HA.out
      clear HA
      simp only [depotref02_Base32.l0] at H
      by_cases c4 : x5_1 < (t154.length : Int)
      · rw [if_pos c4] at H
        have c4b0 : decide (x5_1 < (t154.length : Int)) = true := decide_eq_true c4
        clear c4
        have H' := Aside0.mk H
        clear H
        obtain ⟨Ao5, co5, eo5⟩ := Kd.R_slice HO_3.out
        subst eo5
        go_wp2
        go_loopg [6, 7] k1 (fun kq v6 v7 w' => ∃ (x6_2 : Int) (x7_2 : Int), v6 = .int .i64 x6_2 ∧ v7 = .int .i64 x7_2 ∧ Aside0 (depotref02_Base32.l1 kq t154 x4_1 x5_1 x6_2 x7_2 = some r) ∧ Aside0 (kq ≤ k1) ∧ Aside0 (Kd.R (Kd.int .i64) 3 w' w.heap.size (fun _ => True) (.slice Ao5 t154.length co5) t154) ∧ Aside0 (Kd.R (Kd.int .u8) 5 w' w.heap.size (fun _ => True) u4 x4_1) ∧ Aside0 (Below w.heap.size w w'))
        case atStart => exact ⟨(0), (4), (by first | rfl | (simp; done) | (simp [*]; done)), (by first | rfl | (simp; done) | (simp [*]; done)), H', ⟨Nat.le_refl _⟩, ⟨by (with_reducible repeat (first | apply Kd.R_alloc | apply Kd.R_drewN | apply Kd.R_drew)); exact HO_3.out⟩, ⟨by (with_reducible repeat (first | apply Kd.R_alloc | apply Kd.R_drewN | apply Kd.R_drew)); exact HO_4.out⟩, ⟨by repeat (first | (with_reducible first | exact HB.out | apply below_alloc | apply pw_below_drewN | apply below_drew1) | exact HB.out)⟩⟩
        case round =>
          clear H'
          try clear c1
          try clear p2
          try clear c3
          try clear c4
          try clear c4b0
          try clear p2
          obtain ⟨x6_2, x7_2, rfl, rfl, HA, HK2, HO_3, HO_4, HB⟩ := hrel
          cases gk with
          | zero => exact absurd HA.out (by simp [depotref02_Base32.l1])
          | succ k2 =>
            have H := HA.out
            clear HA
            simp only [depotref02_Base32.l1] at H
            by_cases c6 : x7_2 ≥ 0
            · rw [if_pos c6] at H
              have c6b0 : decide (0 ≤ x7_2) = true := decide_eq_true c6
              clear c6
              by_cases c7 : (wrap64 (x5_1 + x7_2)) < (t154.length : Int)
              · rw [if_pos c7] at H
                have c7b0 : decide ((wrap64 (x5_1 + x7_2)) < (t154.length : Int)) = true := decide_eq_true c7
                clear c7
                obtain ⟨ji8, hji8⟩ : ∃ j_ : Int, (wrap64 (x5_1 + x7_2)) = j_ := ⟨_, rfl⟩
                replace H : (if 0 ≤ (ji8) then (depotref02_Base32.l1 k2 t154 x4_1 x5_1 (wrap64 ((wrap64 (x6_2 * 2)) + (rd t154 (ji8)))) (wrap64 (x7_2 - 1))) else (none)) = some r := by first | (rw [hji8] at H; exact H) | (simp only [hji8] at H ⊢; exact H)
                (try rw [hji8] at c7b0)
                have hji8w : (IntKind.i64.wrap (x5_1 + x7_2)) = ji8 := (i64_w _).trans hji8
                by_cases c9 : 0 ≤ (ji8)
                · rw [if_pos c9] at H
                  have c9b0 : decide (0 ≤ (ji8)) = true := decide_eq_true c9
                  clear c9
                  have H' := Aside0.mk H
                  clear H
                  have p157 : 0 ≤ ((ji8) : Int) := of_decide_eq_true (by first | (with_reducible assumption) | assumption)
                  have q157 : (ji8) < (t154.length : Int) := of_decide_eq_true (by first | (with_reducible assumption) | assumption)
                  obtain ⟨ad157, e157, hx157_0⟩ := Kd.at_int (Kd.R_reads' HO_3.out).2.2 (ji8) p157 q157
                  cases e157
                  replace p157 := eq_true p157
                  replace q157 := eq_true q157
                  go_wp2
                  go_roundg k2
                  case measure => have := HK1.out; have := HK2.out; omega
                  case rel => exact ⟨(wrap64 ((wrap64 (x6_2 * 2)) + (rd t154 (ji8)))), (wrap64 (x7_2 - 1)), (by first | rfl | (simp; done) | (simp only [← hji8] <;> (first | rfl | simp)) | (simp [*]; done)), (by first | rfl | (simp; done) | (simp [*]; done)), H', ⟨by have := HK1.out; have := HK2.out; omega⟩, ⟨by (with_reducible repeat (first | apply Kd.R_alloc | apply Kd.R_drewN | apply Kd.R_drew)); exact HO_3.out⟩, ⟨by (with_reducible repeat (first | apply Kd.R_alloc | apply Kd.R_drewN | apply Kd.R_drew)); exact HO_4.out⟩, ⟨by repeat (first | (with_reducible first | exact HB.out | apply below_alloc | apply pw_below_drewN | apply below_drew1) | exact HB.out)⟩⟩
                · rw [if_neg c9] at H
                  exact absurd H (by simp)
              · rw [if_neg c7] at H
                have c7b0 : decide ((wrap64 (x5_1 + x7_2)) < (t154.length : Int)) = false := decide_eq_false c7
                clear c7
                have H' := Aside0.mk H
                clear H
                go_wp2
                go_roundg k2
                case measure => have := HK1.out; have := HK2.out; omega
                case rel => exact ⟨(wrap64 (x6_2 * 2)), (wrap64 (x7_2 - 1)), (by first | rfl | (simp; done) | (simp [*]; done)), (by first | rfl | (simp; done) | (simp [*]; done)), H', ⟨by have := HK1.out; have := HK2.out; omega⟩, ⟨by (with_reducible repeat (first | apply Kd.R_alloc | apply Kd.R_drewN | apply Kd.R_drew)); exact HO_3.out⟩, ⟨by (with_reducible repeat (first | apply Kd.R_alloc | apply Kd.R_drewN | apply Kd.R_drew)); exact HO_4.out⟩, ⟨by repeat (first | (with_reducible first | exact HB.out | apply below_alloc | apply pw_below_drewN | apply below_drew1) | exact HB.out)⟩⟩
            · rw [if_neg c6] at H
              have c6b0 : decide (0 ≤ x7_2) = false := decide_eq_false c6
              clear c6
              by_cases c10 : 0 ≤ x6_2
              · rw [if_pos c10] at H
                have c10b0 : decide (0 ≤ x6_2) = true := decide_eq_true c10
                clear c10
                by_cases c11 : x6_2 < 32
                · rw [if_pos c11] at H
                  have c11b0 : decide (x6_2 < 32) = true := decide_eq_true c11
                  clear c11
                  by_cases c13 : x4_1.length < 140737488355328
                  · rw [if_pos c13] at H
                    have LMc13 := Aside0.mk c13
                    clear c13
                    obtain ⟨y158, hy158⟩ : ∃ y_ : List Int, y_ = (x4_1 ++ [bt (⟨#[48, 49, 50, 51, 52, 53, 54, 55, 56, 57, 97, 98, 99, 100, 102, 103, 104, 105, 106, 107, 108, 109, 110, 112, 113, 114, 115, 118, 119, 120, 121, 122]⟩ : ByteArray) x6_2]) := ⟨_, rfl⟩
                    replace H : (depotref02_Base32.l0 k2 t154 y158 (wrap64 (x5_1 + 5))) = some r := by first | (rw [hy158]; with_reducible exact H) | (have H2_ := (Option.bind_some _ _).symm.trans H; rw [hy158]; with_reducible exact H2_) | (have H2_ := (Option.bind_some _ _).symm.trans H; with_reducible exact H2_) | with_reducible exact H | (rw [hy158]; exact H) | exact H
                    have Ny158 := Aside0.mk hy158
                    clear hy158
                    have H' := Aside0.mk H
                    clear H
                    have p12 : 0 ≤ (x6_2 : Int) := of_decide_eq_true (by first | (with_reducible assumption) | assumption)
                    have q12 : x6_2 < (32 : Int) := of_decide_eq_true (by first | (with_reducible assumption) | assumption)
                    have hx12 := bt_at (⟨#[48, 49, 50, 51, 52, 53, 54, 55, 56, 57, 97, 98, 99, 100, 102, 103, 104, 105, 106, 107, 108, 109, 110, 112, 113, 114, 115, 118, 119, 120, 121, 122]⟩ : ByteArray) x6_2
                    replace p12 := eq_true p12
                    replace q12 := eq_true q12
                    go_wp2_with (first | ((with_reducible refine gate_builtin (b := .append) (xs := #[.tmp 38, .tmp 41]) rfl ?_); at_builtin; refine Kd.R_append (Kd.int .u8) (w0 := w) w.heap.size rfl (.tmp 38) (.tmp 41) 34 5 (.int .u8 0) 1 rfl Tryd.underlying34 info5 rfl (by decide) (by omega) u4 x4_1 (bt (⟨#[48, 49, 50, 51, 52, 53, 54, 55, 56, 57, 97, 98, 99, 100, 102, 103, 104, 105, 106, 107, 108, 109, 110, 112, 113, 114, 115, 118, 119, 120, 121, 122]⟩ : ByteArray) x6_2) [.int .u8 (bt (⟨#[48, 49, 50, 51, 52, 53, 54, 55, 56, 57, 97, 98, 99, 100, 102, 103, 104, 105, 106, 107, 108, 109, 110, 112, 113, 114, 115, 118, 119, 120, 121, 122]⟩ : ByteArray) x6_2)] (fun _ => True) (fun _ => False) rfl rfl ?aP (fun _ hk => hk.elim) ?aF ?aO ?aB ?aS ?aL ?_; (case aP => exact rfl); (case aB => exact (by repeat (first | (with_reducible first | exact HB.out | apply below_alloc | apply pw_below_drewN | apply below_drew1) | exact HB.out))); (case aF => exact (fun _ _ => trivial)); (case aO => exact (by (with_reducible repeat (first | apply Kd.R_alloc | apply Kd.R_drewN | apply Kd.R_drew)); exact HO_4.out)); (case aS => exact (below_size (by repeat (first | (with_reducible first | exact HB.out | apply below_alloc | apply pw_below_drewN | apply below_drew1) | exact HB.out)))); (case aL => have := LMc13.out; omega); intro v159 w14 ho hb hg hat; rw [← Ny158.out] at ho; have n0_ := Aside0.mk (Kd.R_over' (by (with_reducible repeat (first | apply Kd.R_alloc | apply Kd.R_drewN | apply Kd.R_drew)); exact HO_3.out) (Kd.R_typed (by (with_reducible repeat (first | apply Kd.R_alloc | apply Kd.R_drewN | apply Kd.R_drew)); exact HO_4.out)) (by decide) hg); have n1_ := Aside0.mk (hb); have n2_ := Aside0.mk (ho); clear HO_3; clear HB; clear HO_4; have HO_3 := n0_; have HB := n1_; have HO160 := n2_; clear n0_ n1_ n2_; clear ho hb hg hat))
                    go_roundg k2
                    case measure => have := HK1.out; have := HK2.out; omega
                    case rel => exact ⟨(y158), (wrap64 (x5_1 + 5)), (by first | rfl | (simp; done) | (simp [*]; done)), H', ⟨by have := HK1.out; have := HK2.out; omega⟩, ⟨by (with_reducible repeat (first | apply Kd.R_alloc | apply Kd.R_drewN | apply Kd.R_drew)); exact HO_3.out⟩, ⟨by (with_reducible repeat (first | apply Kd.R_alloc | apply Kd.R_drewN | apply Kd.R_drew)); exact HO160.out⟩, ⟨by repeat (first | (with_reducible first | exact HB.out | apply below_alloc | apply pw_below_drewN | apply below_drew1) | exact HB.out)⟩⟩
                  · rw [if_neg c13] at H
                    exact absurd H (by simp)
                · rw [if_neg c11] at H
                  exact absurd H (by simp)
              · rw [if_neg c10] at H
                exact absurd H (by simp)
      · rw [if_neg c4] at H
        have c4b0 : decide (x5_1 < (t154.length : Int)) = false := decide_eq_false c4
        clear c4
        by_cases c15 : 0 ≤ (x4_1.length : Int)
        · rw [if_pos c15] at H
          have c15b0 := eq_true c15
          have c15b1 : decide (0 ≤ (x4_1.length : Int)) = true := decide_eq_true c15
          clear c15
          by_cases c16 : ((x4_1.length : Int) : Int).toNat ≤ 281474976710656
          · rw [if_pos c16] at H
            have c16b0 := eq_true c16
            have c16b1 : decide (((x4_1.length : Int) : Int).toNat ≤ 281474976710656) = true := decide_eq_true c16
            clear c16
            obtain ⟨y161, hy161⟩ : ∃ y_ : List Int, y_ = (List.replicate ((x4_1.length : Int) : Int).toNat 0) := ⟨_, rfl⟩
            replace H : (depotref02_Base32.l2 k1 x4_1 y161 0) = some r := by first | (rw [hy161]; with_reducible exact H) | (have H2_ := (Option.bind_some _ _).symm.trans H; rw [hy161]; with_reducible exact H2_) | (have H2_ := (Option.bind_some _ _).symm.trans H; with_reducible exact H2_) | with_reducible exact H | (rw [hy161]; exact H) | exact H
            have Ny161 := Aside0.mk hy161
            clear hy161
            have H' := Aside0.mk H
            clear H
            obtain ⟨Ao17, co17, eo17⟩ := Kd.R_slice HO_3.out
            subst eo17
            obtain ⟨Ao18, co18, eo18⟩ := Kd.R_slice HO_4.out
            subst eo18
            go_wp2_with (first | ((with_reducible refine gate_dst (N := 45) rfl ?_); refine Kd.R_make (Kd.int .u8) _ 5 rfl (N := 45) rfl 34 _ _ rfl (x4_1.length : Int) rfl rfl Tryd.underlying34 (.int .u8 0) 1 info5 rfl (by decide) (by omega) 0 (ok := fun _ => True) (okp := fun _ => True) rfl (fun _ hk => hk) trivial (of_decide_eq_true (by first | (with_reducible assumption) | assumption)) (Nat.le_trans (Nat.mul_le_mul_right _ (of_decide_eq_true (by first | (with_reducible assumption) | assumption) : (x4_1.length : Int).toNat ≤ 281474976710656)) (by omega)) (Below.refl _ _) (Nat.le_refl _) ?_; intro v162 w19 ho20 hb hg_ hnew_; clear hg_ hnew_; (first | rw [← Ny161.out] at ho20 | (simp only [Int.reduceToNat] at ho20; rw [← Ny161.out] at ho20)); have n0_ := Aside0.mk (Kd.R_below (by (with_reducible repeat (first | apply Kd.R_alloc | apply Kd.R_drewN | apply Kd.R_drew)); exact HO_3.out) hb); have n1_ := Aside0.mk (Kd.R_elder' (by (with_reducible repeat (first | apply Kd.R_alloc | apply Kd.R_drewN | apply Kd.R_drew)); exact HO_4.out) (Kd.R_base ho20) hb); have n2_ := Aside0.mk (Kd.R_lower (Kd.R_new' ho20 (Kd.R_lt (by (with_reducible repeat (first | apply Kd.R_alloc | apply Kd.R_drewN | apply Kd.R_drew)); exact HO_4.out))) (below_size (by repeat (first | (with_reducible first | exact HB.out | apply below_alloc | apply pw_below_drewN | apply below_drew1) | exact HB.out)))); have n3_ := Aside0.mk (below_step (by repeat (first | (with_reducible first | exact HB.out | apply below_alloc | apply pw_below_drewN | apply below_drew1) | exact HB.out)) hb); clear HO_3; clear HO_4; clear HB; have HO_3 := n0_; have HO_4 := n1_; have HO163 := n2_; have HB := n3_; clear n0_ n1_ n2_ n3_; clear hb ho20))
            go_loopg [9] k1 (fun kq v9 w' => ∃ (x8_2 : List Int) (x9_2 : Int), v9 = .int .i64 x9_2 ∧ Aside0 (depotref02_Base32.l2 kq x4_1 x8_2 x9_2 = some r) ∧ Aside0 (kq ≤ k1) ∧ Aside0 (Kd.R (Kd.int .u8) 5 w' w.heap.size (fun k_ => some k_ ≠ (v162 : Value).ownBlock) (.slice Ao18 x4_1.length co18) x4_1) ∧ Aside0 (Kd.R (Kd.int .u8) 5 w' w.heap.size (fun k_ => some k_ ≠ ((.slice Ao18 x4_1.length co18) : Value).ownBlock) v162 x8_2) ∧ Aside0 (Below w.heap.size w w'))
            case atStart => exact ⟨(y161), (0), (by first | rfl | (simp; done) | (simp [*]; done)), H', ⟨Nat.le_refl _⟩, ⟨by (with_reducible repeat (first | apply Kd.R_alloc | apply Kd.R_drewN | apply Kd.R_drew)); exact Kd.R_mono HO_4.out (fun _ hk => hk.2)⟩, ⟨by (with_reducible repeat (first | apply Kd.R_alloc | apply Kd.R_drewN | apply Kd.R_drew)); exact Kd.R_mono HO163.out (fun _ hk => hk.2)⟩, ⟨by repeat (first | (with_reducible first | exact HB.out | apply below_alloc | apply pw_below_drewN | apply below_drew1) | exact HB.out)⟩⟩
            case round =>
              clear H'
              try clear c1
              try clear p1
              try clear q1
              try clear hx1
              try clear p2
              try clear c3
              try clear c4
              try clear c4b0
              try clear c6
              try clear c6b0
              try clear p6
              try clear c7
              try clear c7b0
              try clear c9
              try clear c9b0
              try clear c10
              try clear c10b0
              try clear c11
              try clear c11b0
              try clear p12
              try clear q12
              try clear hx12
              try clear c13
              try clear c15
              try clear c15b0
              try clear c15b1
              try clear p15
              try clear q15
              try clear hx15
              try clear c16
              try clear c16b0
              try clear c16b1
              try clear c19
              try clear hx157_0
              try clear p12
              try clear p157
              try clear p2
              try clear q12
              try clear q157
              obtain ⟨x8_2, x9_2, rfl, HA, HK2, HO_4, HO_8, HB⟩ := hrel
              cases gk with
              | zero => exact absurd HA.out (by simp [depotref02_Base32.l2])
              | succ k2 =>
                have H := HA.out
                clear HA
                simp only [depotref02_Base32.l2] at H
                by_cases c21 : x9_2 < (x4_1.length : Int)
                · rw [if_pos c21] at H
                  have c21b0 : decide (x9_2 < (x4_1.length : Int)) = true := decide_eq_true c21
                  clear c21
                  by_cases c22 : 0 ≤ x9_2
                  · rw [if_pos c22] at H
                    have c22b0 : decide (0 ≤ x9_2) = true := decide_eq_true c22
                    clear c22
                    obtain ⟨ji23, hji23⟩ : ∃ j_ : Int, (wrap64 ((wrap64 ((x4_1.length : Int) - 1)) - x9_2)) = j_ := ⟨_, rfl⟩
                    replace H : (if 0 ≤ (ji23) then (if (ji23) < (x8_2.length : Int) then (depotref02_Base32.l2 k2 x4_1 (x8_2.set ((ji23) : Int).toNat (rd x4_1 x9_2)) (wrap64 (x9_2 + 1))) else (none)) else (none)) = some r := by first | (rw [hji23] at H; exact H) | (simp only [hji23] at H ⊢; exact H)
                    have hji23w : (IntKind.i64.wrap ((wrap64 ((x4_1.length : Int) - 1)) - x9_2)) = ji23 := (i64_w _).trans hji23
                    by_cases c24 : 0 ≤ (ji23)
                    · rw [if_pos c24] at H
                      have c24b0 : decide (0 ≤ (ji23)) = true := decide_eq_true c24
                      clear c24
                      by_cases c25 : (ji23) < (x8_2.length : Int)
                      · rw [if_pos c25] at H
                        have c25b0 : decide ((ji23) < (x8_2.length : Int)) = true := decide_eq_true c25
                        clear c25
                        obtain ⟨y165, hy165⟩ : ∃ y_ : List Int, y_ = (x8_2.set ((ji23) : Int).toNat (rd x4_1 x9_2)) := ⟨_, rfl⟩
                        replace H : (depotref02_Base32.l2 k2 x4_1 y165 (wrap64 (x9_2 + 1))) = some r := by first | (rw [hy165]; with_reducible exact H) | (have H2_ := (Option.bind_some _ _).symm.trans H; rw [hy165]; with_reducible exact H2_) | (have H2_ := (Option.bind_some _ _).symm.trans H; with_reducible exact H2_) | with_reducible exact H | (rw [hy165]; exact H) | exact H
                        have Ny165 := Aside0.mk hy165
                        clear hy165
                        have H' := Aside0.mk H
                        clear H
                        have p164 : 0 ≤ (x9_2 : Int) := of_decide_eq_true (by first | (with_reducible assumption) | assumption)
                        have q164 : x9_2 < (x4_1.length : Int) := of_decide_eq_true (by first | (with_reducible assumption) | assumption)
                        obtain ⟨ad164, e164, hx164_0⟩ := Kd.at_int (Kd.R_reads' HO_4.out).2.2 x9_2 p164 q164
                        cases e164
                        replace p164 := eq_true p164
                        replace q164 := eq_true q164
                        have p26 : 0 ≤ ((ji23) : Int) := of_decide_eq_true (by first | (with_reducible assumption) | assumption)
                        have q26 : ((ji23) : Int) < ((x8_2.length : Int) : Int) := of_decide_eq_true (by first | (with_reducible assumption) | assumption)
                        obtain ⟨go26, co26, eo26, gb26, gl26, cl26, HG26⟩ := Kd.R_form HO_8.out (by omega)
                        (first | cases eo26 | (injection eo26 with ea_ en_ ec_; (first | subst ea_ | (injection ea_ with ea_; subst ea_)); subst ec_; clear en_))
                        have GB26 := Aside0.mk gb26
                        have GG26 := Aside0.mk HG26
                        clear gb26 gl26 HG26
                        obtain ⟨hx26_0, hf26_0⟩ := Kd.R_celln 0 HO_8.out ((ji23) : Int) p26 q26
                        replace p26 := eq_true p26
                        replace q26 := eq_true q26
                        have HP27 := Kd.R_putg HO_8.out ((ji23) : Int) (rd x4_1 x9_2)
                        go_wp2_with (first | ((with_reducible refine gate_store (t := 5) (p := 62) rfl ?_); refine store_event (t := 5) (p := 62) (v := ?vo_w28) (w1 := (wr.setCell ⟨go26, ((ji23) : Int).toNat, none⟩ (.int .u8 (rd x4_1 x9_2)))) ?hg ?ho ?hn ?hr ?_; (case ho => rfl); (case hg => rfl); (case hn => rfl); (case hr => first | (go_simp; done) | (go_simp; rfl)); intro w28 hw; have hg : wr.grownBy w28 (some go26) := (by rw [hw]; exact HP27.2); have hp_ : Kd.R (Kd.int .u8) 5 w28 w.heap.size (fun k_ => some k_ ≠ (.slice (some ad164) x4_1.length co18 : Value).ownBlock) (.slice (some ⟨go26, 0, none⟩) x8_2.length co26) y165 := (by rw [hw, Ny165.out]; exact HP27.1); clear HP27; have n0_ := Aside0.mk (Kd.R_after (v := (.slice (some ⟨go26, 0, none⟩) x8_2.length co26)) (v1 := (.slice (some ⟨go26, 0, none⟩) x8_2.length co26)) (ok := (fun _ => True)) (by (with_reducible repeat (first | apply Kd.R_alloc | apply Kd.R_drewN | apply Kd.R_drew)); exact Kd.R_mono HO_4.out (fun _ hk => ⟨trivial, hk⟩)) hg (.inl rfl)); have n1_ := Aside0.mk (hp_); have n2_ := Aside0.mk ((by rw [hw]; exact below_set (HB.out) GB26.out : Below w.heap.size w w28)); clear HO_4; clear HO_8; clear HB; have HO_4 := n0_; have HO_8 := n1_; have HB := n2_; clear n0_ n1_ n2_; clear hg hw hp_))
                        go_roundg k2
                        case measure => have := HK1.out; have := HK2.out; omega
                        case rel => exact ⟨(y165), (wrap64 (x9_2 + 1)), (by first | rfl | (simp; done) | (simp [*]; done)), H', ⟨by have := HK1.out; have := HK2.out; omega⟩, ⟨by (with_reducible repeat (first | apply Kd.R_alloc | apply Kd.R_drewN | apply Kd.R_drew)); exact Kd.R_mono HO_4.out (fun _ hk => hk.2)⟩, ⟨by (with_reducible repeat (first | apply Kd.R_alloc | apply Kd.R_drewN | apply Kd.R_drew)); exact HO_8.out⟩, ⟨by repeat (first | (with_reducible first | exact HB.out | apply below_alloc | apply pw_below_drewN | apply below_drew1) | exact HB.out)⟩⟩
                      · rw [if_neg c25] at H
                        exact absurd H (by simp)
                    · rw [if_neg c24] at H
                      exact absurd H (by simp)
                  · rw [if_neg c22] at H
                    exact absurd H (by simp)
                · rw [if_neg c21] at H
                  have c21b0 : decide (x9_2 < (x4_1.length : Int)) = false := decide_eq_false c21
                  clear c21
                  obtain rfl := Option.some.inj H
                  have hcv29 := own_string (P := Tryd.prog) Tryd.underlying34 Tryd.underlying5 Tryd.underlying9 (Kd.own_of_R HO_8.out)
                  go_wp2
                  go_ret
                  exact ⟨by first | rfl | (simp [errW_none, errW_some] <;> rfl) | (simp [*, errW_none, errW_some] <;> rfl), by repeat (first | (with_reducible first | exact HB.out | apply below_alloc | apply pw_below_drewN | apply below_drew1) | exact HB.out)⟩
          · rw [if_neg c16] at H
            exact absurd H (by simp)
        · rw [if_neg c15] at H
          exact absurd H (by simp)

end Go.Proofs.YtdjhhljijpadoaaDoor.Q
/- SHA-256: Write. -/
namespace Go.Proofs.YtdjhhljijpadoaaDoor.Sha
open Go.RowKit Go.Proofs.YtdjhhljijpadoaaDoorW.PrintWords Go.Proofs.YtdjhhljijpadoaaDoorW.PrintLast Go.Proofs.YtdjhhljijpadoaaDoorW.PrintMore Go.Proofs.YtdjhhljijpadoaaDoor.Bytes
set_option linter.unusedVariables false
set_option linter.unusedSimpArgs false
theorem wpList_copy_bytes {P : Program} {w : World} {ops : Array Oper} {rest : List Oper} {o : Oper} {a : Act} {Q : Exit → Act → World → Prop} (hgd : o.guard = none) (d s : Operand) (dT sT : TypeId)
    (ho : o.op = .call { callee := .builtin .copy, args := #[d, s], argTypes := #[dT, sT] }) (elem : TypeId) (hu : P.underlying dT = some (.slice elem)) (hsz : (P.info? elem).map (·.size) = some 1)
    (g off dLen dCap m : Nat) (ad : Addr) (sLen sCap : Nat) (hd : a.eval d = .slice (some ⟨g, off, none⟩) dLen dCap) (hs : a.eval s = .slice (some ad) sLen sCap)
    (cur : Array Value) (ty : TypeId) (hg : w.heap[g]? = some (.cells cur ty (0, 0))) (cs : List Value) (hm : cs.length = m) (hn : Nat.min sLen dLen = m) (hsrc : ∀ j v, cs[j]? = some v → w.cell? (ad.add j) = some v) (hfit : off + m ≤ cur.size) (h1 : ∀ v ∈ cs, v.oneCell' = true)
    (h : wpList P ops Q rest (a.put o.dst (goInt m)) (w.setRow g (cur.toList.take off ++ cs ++ cur.toList.drop (off + m)).toArray)) : wpList P ops Q (o :: rest) a w := by
  refine wpList_plain hgd fun K hK => ?_
  have hrun := run_copy_row (P := P) w dT sT o.type elem g off dLen dCap ad sLen sCap cur ty cs hu hsz hg (by rw [hm, hn]) hsrc (by rw [hm]; exact hfit) h1
  rw [hm] at hrun
  unfold Oper.wp execOp
  simp only [ho, resolve, invoke, builtin, Sem.run_bind, Sem.run_pure, Result.andThen_ok, List.map_toArray, List.map_cons, List.map_nil, hd, hs, hrun]
  exact hK _ _ h
set_option maxRecDepth 100000 in
set_option maxHeartbeats 4000000 in
/-- Write, the bytes a whole block of their own. -/
theorem write_calls (s : Sd) (l : List UInt8) (b : Nat) (g : Nat) (p : List UInt8) (ty : TypeId) (w : World) (hs : s.At w b) (hl : s.Holds l) (hG : Glob w) (hb : 2 ≤ b) (hgb : g ≠ b) (hg : w.heap[g]? = some (.cells (p.map bcell).toArray ty (0, 0))) (hn : l.length + p.length < 4611686018427387904) : Calls Tryd.prog 21 #[.pointer (some ⟨b, 0, none⟩), .slice (some ⟨g, 0, none⟩) p.length p.length] w fun e w' => e = .returned (.tuple #[]) ∧ ∃ s', Turn w w' b s' ∧ s'.Holds (l ++ p) := by
  have HG := Aside0.mk hG
  have HB2 := Aside0.mk hb
  have HS := Aside0.mk (Turn.start hs)
  have HL := Aside0.mk hl
  have HT := Aside0.mk (fun s k w h1 h2 h3 h4 => took_calls s b k w h1 h2 hb h3 h4)
  have HGB := Aside0.mk hgb
  have HXG : Aside0 (∀ w', w.grownBy w' (some b) → w'.heap[g]? = some (.cells (p.map bcell).toArray ty (0, 0))) := ⟨fun w' h => (h.block _ (Array.getElem?_eq_some_iff.1 hg).1 (by intro e; injection e with e; exact hgb e)).trans hg⟩
  clear hs hG hl hg hgb
  go_enter Tryd.func21, Tryd.ntmps21
  go_wp2
  go_loopg [1] p.length (fun gg v1 wx => ∃ (of_ ofx : Nat) (lx : List UInt8) (sx : Sd), of_ ≤ p.length ∧ (of_ < p.length → ofx = of_) ∧ p.length - of_ ≤ gg ∧ v1 = .slice (some ⟨g, ofx, none⟩) (p.length - of_) (p.length - of_) ∧ Aside0 (Turn w wx b sx) ∧ Aside0 (sx.Holds lx) ∧ Aside0 (lx ++ p.drop of_ = l ++ p) ∧ lx.length + (p.length - of_) < 4611686018427387904)
  case atStart => exact ⟨0, 0, l, s, by omega, fun _ => rfl, by omega, rfl, HS, HL, ⟨rfl⟩, by omega⟩
  case round =>
    clear HS HL
    obtain ⟨of_, ofx, lx, sx, hof, hox, hgg, rfl, HS, HL, HE, hnn⟩ := hrel
    obtain ⟨q, hq⟩ : ∃ q, p.length - of_ = q := ⟨_, rfl⟩
    rw [hq] at hgg hnn ⊢
    by_cases h0 : q = 0
    · subst h0
      go_wp2
      go_end0
      have he := HE.out
      rw [List.drop_of_length_le (by omega), List.append_nil] at he
      rw [← he]
      exact ⟨rfl, sx, HS.out, HL.out⟩
    · obtain rfl : of_ = ofx := (hox (by omega)).symm
      clear hox
      have d1 : decide (0 < (q : Int)) = true := decide_eq_true (by omega)
      have d2 : decide (0 < q) = true := decide_eq_true (by omega)
      have husd : sx.used < 64 := by
        obtain ⟨a, r, _, _, hr, _, _, hu, _⟩ := HL.out
        omega
      have hsn : sx.n = lx.length := by
        obtain ⟨a, r, _, _, hr, _, hn, hu, _⟩ := HL.out
        exact hn
      have p1 : (0 ≤ (sx.used : Int)) = True := eq_true (by omega)
      have p2 : ((sx.used : Int) ≤ 64) = True := eq_true (by omega)
      obtain ⟨m, hm⟩ : ∃ m, Nat.min q (64 - sx.used) = m := ⟨_, rfl⟩
      have hm1 : m ≤ q := by rw [← hm]; exact Nat.min_le_left _ _
      have hm2 : m ≤ 64 - sx.used := by rw [← hm]; exact Nat.min_le_right _ _
      have hm3 : 0 < m := by rw [← hm]; exact Nat.lt_min.2 ⟨by omega, by omega⟩
      have p3 : (0 ≤ (m : Int)) = True := eq_true (by omega)
      have p4 : ((m : Int) ≤ (q : Int)) = True := eq_true (by omega)
      have HQ := Aside0.mk hq
      go_wp2
      refine wp_region_still_tail 9 (by kernel_rfl) (by kernel_rfl) ?_
      change wpStill _ _ (World.drew wr) (fun a' => wpList _ _ _ _ a' (World.drew wr)) _ _
      have HS2 := Aside0.mk (HS.out.keep (below_drew (Below.refl _ wr)))
      generalize World.drew wr = w2 at HS2 ⊢
      have y1 := HS2.out.1.use
      simp only [List.take_succ_cons, List.take_zero, List.drop_succ_cons, List.drop_zero]
      repeat still_step
      refine wpStill_nil ?_
      change wpList _ _ _ _ _ w2
      have hcl := sx.cells_len HS2.out.1.len
      have hg2 := HXG.out w2 HS2.out.2
      have htl : ((p.drop of_).take m).length = m := by rw [List.length_take, List.length_drop]; omega
      refine wpList_copy_bytes rfl (.tmp 15) (.tmp 16) 34 34 rfl 5 Tryd.underlying34 (by kernel_rfl) b (9 + sx.used) (64 - sx.used) (64 - sx.used) m ⟨g, of_, none⟩ q q (by first | rfl | (simp [Act.eval, Act.put] <;> omega)) rfl sx.cells.toArray _ HS2.out.1.lies (((p.drop of_).take m).map bcell) (by rw [List.length_map, htl]) hm (fun j v hj => by
        rw [Addr.add_mid]
        simp only [World.cell?, hg2, List.getElem?_toArray]
        rw [List.getElem?_map] at hj ⊢
        rw [List.getElem?_take] at hj
        split at hj
        · rw [List.getElem?_drop] at hj
          exact hj
        · cases hj) (by rw [List.size_toArray, hcl]; omega) (fun v hv => by obtain ⟨y, _, rfl⟩ := List.mem_map.1 hv; rfl) ?_
      have T3 := Aside0.mk (HS2.out.put ((p.drop of_).take m) (by rw [htl]; omega))
      rw [htl] at T3
      change wpList _ _ _ _ _ (w2.setRow b (List.take (9 + sx.used) sx.cells ++ List.map bcell ((p.drop of_).take m) ++ List.drop (9 + sx.used + m) sx.cells).toArray)
      generalize w2.setRow b (List.take (9 + sx.used) sx.cells ++ List.map bcell ((p.drop of_).take m) ++ List.drop (9 + sx.used + m) sx.cells).toArray = w3 at T3 ⊢
      have HC := Aside0.mk (HT.out (sx.put ((p.drop of_).take m)) m w3 T3.out.1 (HG.out.turn T3.out HB2.out) (show sx.used + m ≤ 64 by omega) (show sx.n + m < _ by omega))
      have HP := Aside0.mk (holds_put (bs := (p.drop of_).take m) HL.out (by rw [htl]; omega))
      rw [htl] at HP
      have HTL := Aside0.mk htl
      have hsz : ((m : Int)).toNat = m := Int.toNat_natCast m
      clear y1 HS HS2 hcl htl HL hg2
      obtain ⟨k1, rfl⟩ : ∃ k1, gk = k1 + 1 := ⟨gk - 1, by omega⟩
      by_cases hqm : q = m
      · go_wp2_with (first | (go_at_call 32; ((with_reducible refine HC.out.mono ?_)); rintro e w4 ⟨rfl, hT4⟩; have HT4 := Aside0.mk (T3.out.trans hT4); clear hT4))
        go_roundg k1
        case measure => omega
        case rel =>
          have hq := HQ.out
          refine ⟨of_ + m, of_, lx ++ (p.drop of_).take m, _, by omega, by omega, by omega, ?_, HT4, HP, ⟨?_⟩, ?_⟩
          · rw [show p.length - (of_ + m) = 0 from by omega]
          · rw [List.append_assoc, ← HE.out, ← List.drop_drop, List.take_append_drop]
          · rw [List.length_append, HTL.out]
            omega
      · go_wp2_with (first | (go_at_call 32; ((with_reducible refine HC.out.mono ?_)); rintro e w4 ⟨rfl, hT4⟩; have HT4 := Aside0.mk (T3.out.trans hT4); clear hT4))
        go_roundg k1
        case measure => omega
        case rel =>
          have hq := HQ.out
          refine ⟨of_ + m, of_ + m, lx ++ (p.drop of_).take m, _, by omega, fun _ => rfl, by omega, ?_, HT4, HP, ⟨?_⟩, ?_⟩
          · rw [show p.length - (of_ + m) = q - m from by omega]
          · rw [List.append_assoc, ← HE.out, ← List.drop_drop, List.take_append_drop]
          · rw [List.length_append, HTL.out]
            omega
end Go.Proofs.YtdjhhljijpadoaaDoor.Sha
/- SHA-256: Of. -/
namespace Go.Proofs.YtdjhhljijpadoaaDoor.Sha
open Go.RowKit Go.Proofs.YtdjhhljijpadoaaDoorW.PrintWords Go.Proofs.YtdjhhljijpadoaaDoorW.PrintLast Go.Proofs.YtdjhhljijpadoaaDoorW.PrintMore Go.Proofs.YtdjhhljijpadoaaDoor.Bytes
set_option linter.unusedVariables false
set_option linter.unusedSimpArgs false
set_option maxRecDepth 100000 in
set_option maxHeartbeats 4000000 in
theorem of_calls (hP : PadCalls) (t : ByteArray) (w : World) (hG : Glob w) (hn : t.size < 1152921504606846976) : Calls Tryd.prog 11 #[.string t] w fun e w' => e = .returned (.agg ((of t.data.toList).map bcell).toArray) ∧ Below w.heap.size w w' := by
  have HR28 : Aside0 ((Tryd.prog.info? 29).map (·.size) = some 32) := ⟨by kernel_rfl⟩
  have hz : (w.alloc (.cells (List.replicate 32 (Value.int .u8 0)).toArray 29)).heap.size = w.heap.size + 1 := Array.size_push _
  have hB0 : Below w.heap.size w (w.alloc (.cells (List.replicate 32 (Value.int .u8 0)).toArray 29)) := (Below.refl w.heap.size w).alloc (Nat.le_refl _) _
  have HN := Aside0.mk (new_calls (w.alloc (.cells (List.replicate 32 (Value.int .u8 0)).toArray 29)) (hG.below hB0 hG.lt))
  rw [hz] at HN
  have hX0 : (w.alloc (.cells (List.replicate 32 (Value.int .u8 0)).toArray 29)).heap[w.heap.size]? = some (.cells (List.replicate 32 (Value.int .u8 0)).toArray 29 (0, 0)) := World.alloc_heap_new _ _
  have HB0 := Aside0.mk (fun w' (h : Below (w.heap.size + 1) (w.alloc (.cells (List.replicate 32 (Value.int .u8 0)).toArray 29)) w') => And.intro (hB0.trans (h.mono (Nat.le_succ _))) ((h.block w.heap.size (by omega)).trans hX0))
  have hsz : t.data.toList.length = t.size := (Lib.size_eq t).symm
  have HW := Aside0.mk (fun (w1 : World) (hA : Sd.At ⟨0, H0, List.replicate 64 0, 0⟩ w1 (w.heap.size + 1)) (hB : Below w.heap.size w w1) => writeText_calls ⟨0, H0, List.replicate 64 0, 0⟩ [] (w.heap.size + 1) t w1 hA holds_new (hG.below hB hG.lt) (by have := hG.lt; omega) (by simp; omega))
  have HS := Aside0.mk (fun (s : Sd) (w1 : World) (hA : s.At w1 (w.heap.size + 1)) (hB : Below w.heap.size w w1) (hH : s.Holds t.data.toList) => sum_calls hP s t.data.toList (w.heap.size + 1) w1 hA hH (hG.below hB hG.lt) (by omega))
  clear hG hP hsz hz hB0 hX0
  go_enter Tryd.func11, Tryd.ntmps11
  go_wp2_with (first
    | (go_at_call 20; (refine HN.out.mono ?_); rintro e w1 ⟨rfl, hA, hB⟩; have HA1 := Aside0.mk hA; have HB1 := Aside0.mk (HB0.out _ hB).1; have HX1 := Aside0.mk (HB0.out _ hB).2; clear hA hB)
    | (go_at_call 22; ((with_reducible refine (HW.out w1 HA1.out HB1.out).mono ?_)); rintro e w2 ⟨rfl, s2, hT, hH⟩; have HA2 := Aside0.mk hT.1; have HH2 := Aside0.mk (show s2.Holds t.data.toList from hH); have HB2 := Aside0.mk (below_of_grown HB1.out hT.2 (by omega) HB1.out.size); have HX2 := Aside0.mk ((hT.2.block _ (Array.getElem?_eq_some_iff.1 HX1.out).1 (by intro e; injection e; omega)).trans HX1.out); clear hT hH)
    | (go_at_call 23; ((with_reducible refine (HS.out s2 w2 HA2.out HB2.out HH2.out).mono ?_)); rintro e w3 ⟨rfl, hB⟩; have HB3 := Aside0.mk (HB2.out.trans (hB.mono HB2.out.size)); have HX3 := Aside0.mk ((hB.block _ (Array.getElem?_eq_some_iff.1 HX2.out).1).trans HX2.out); have HL3 := Aside0.mk (show ((of t.data.toList).map bcell).length = 32 from by rw [List.length_map, of_len]); clear hB)
    | ((with_reducible refine gate_store (t := 29) (p := 2) rfl ?_); refine wpList_store_row' rfl 29 (.tmp 2) (.tmp 9) rfl w.heap.size 29 _ ((of t.data.toList).map bcell).toArray rfl rfl HX3.out (by rw [List.size_toArray, HL3.out]; exact HR28.out) (by rw [List.size_toArray, List.size_toArray, HL3.out]; rfl) (all_oneCell_toArray fun u hu => by obtain ⟨y, _, rfl⟩ := List.mem_map.1 hu; rfl) ?_; intro w9 hw9; have HX9 : Aside0 (w9.heap[w.heap.size]? = some (.cells ((of t.data.toList).map bcell).toArray 29 (0, 0))) := ⟨by rw [hw9]; exact setRow_heap _ _ _ _ _ _ HX3.out⟩; have HB9 : Aside0 (Below w.heap.size w w9) := ⟨by rw [hw9]; exact below_setRow HB3.out (Nat.le_refl _) _⟩; clear hw9))
  exact bodyPost_ret (v := .agg ((of t.data.toList).map bcell).toArray) (results_cell_row rfl _ _ w.heap.size 29 ((of t.data.toList).map bcell).toArray (0, 0) _ rfl HX9.out Tryd.underlying29 rfl (by rw [List.size_toArray, HL3.out]; exact HR28.out)) rfl ⟨rfl, HB9.out⟩
end Go.Proofs.YtdjhhljijpadoaaDoor.Sha
/- By a program of this session's: a plain Lean function for a Go function, and its contract. -/
namespace Go.Proofs.YtdjhhljijpadoaaDoor.Q
open Go.RowKit Go.Proofs.YtdjhhljijpadoaaDoorW.PrintWords Go.Proofs.YtdjhhljijpadoaaDoorW.PrintLast Go.Proofs.YtdjhhljijpadoaaDoorW.PrintMore
attribute [local go_sem] max2_int min2_int max_two min_two max_three min_three max_four min_four Go.Proofs.YtdjhhljijpadoaaDoor.Ord.str_leq Go.Proofs.YtdjhhljijpadoaaDoor.Ord.str_gtr Go.Proofs.YtdjhhljijpadoaaDoor.Ord.str_geq   -- for this text's walks alone
set_option linter.unusedVariables false
set_option linter.unusedSimpArgs false

/-! ### sha_Pad: function 33 -/
def sha_Pad.l0 : Nat → List Int → Int → Int → Option (ByteArray)
  | 0, _, _, _ => none
  | k + 1, x4, x5, x22 => if x22 < 8 then (if 0 ≤ (wrap64 (8 * x22)) then (if 0 ≤ (wrap64 ((wrap64 ((x4.length : Int) - 1)) - x22)) then (if (wrap64 ((wrap64 ((x4.length : Int) - 1)) - x22)) < (x4.length : Int) then (sha_Pad.l0 k (x4.set ((wrap64 ((wrap64 ((x4.length : Int) - 1)) - x22)) : Int).toNat ((shr .u64 x5 (wrap64 (8 * x22))) % 256)) x5 (wrap64 (x22 + 1))) else (none)) else (none)) else (none)) else (some (strOfNums x4))
def sha_Pad.f (k : Nat) (a0 : Int) : Option (ByteArray) := if a0 < 0 then (some (⟨#[]⟩ : ByteArray)) else (if 0 ≤ (wrap64 ((wrap64 (1 + (Int.tmod (wrap64 (119 - (Int.tmod a0 64))) 64))) + 8)) then (if (wrap64 ((wrap64 (1 + (Int.tmod (wrap64 (119 - (Int.tmod a0 64))) 64))) + 8) : Int).toNat ≤ 281474976710656 then ((some (List.replicate (wrap64 ((wrap64 (1 + (Int.tmod (wrap64 (119 - (Int.tmod a0 64))) 64))) + 8) : Int).toNat 0 : List Int)).bind fun y101 => (if 0 < (y101.length : Int) then (sha_Pad.l0 k (y101.set (0 : Int).toNat 128) (IntKind.u64.wrap ((IntKind.u64.wrap (a0)) * 8)) 0) else (none))) else (none)) else (none))
theorem sha_Pad.mono_l : ∀ k, (∀ y0 y1 y2, LeO (sha_Pad.l0 k y0 y1 y2) (sha_Pad.l0 (k + 1) y0 y1 y2))
  | 0 => fun _ _ _ r h => by simp [sha_Pad.l0] at h
  | k + 1 => by
    have ih0 := sha_Pad.mono_l k
    · intro y0 y1 y2
      unfold sha_Pad.l0
      repeat' first
      | (with_reducible exact ih0 _ _ _)
      | (with_reducible exact LeO.refl _)
      | (with_reducible exact LeO.none _)
      | (with_reducible refine LeO.ite ?_ ?_)
      | (with_reducible refine LeO.bind ?_ (fun _ => ?_))
      | exact ih0 _ _ _
      | exact LeO.none _
      | refine LeO.ite ?_ ?_
      | refine LeO.bind ?_ (fun _ => ?_)
theorem sha_Pad.mono : ∀ a0 k, LeO (sha_Pad.f k a0) (sha_Pad.f (k + 1) a0) := by
  intro a0 k
  have ih0 := sha_Pad.mono_l k
  unfold sha_Pad.f
  repeat' first
      | (with_reducible exact ih0 _ _ _)
      | (with_reducible exact LeO.refl _)
      | (with_reducible exact LeO.none _)
      | (with_reducible refine LeO.ite ?_ ?_)
      | (with_reducible refine LeO.bind ?_ (fun _ => ?_))
      | exact ih0 _ _ _
      | exact LeO.none _
      | refine LeO.ite ?_ ?_
      | refine LeO.bind ?_ (fun _ => ?_)
set_option maxHeartbeats 8000000 in
set_option maxRecDepth 100000 in
theorem sha_Pad.calls (k : Nat) (a0 : Int) (r : ByteArray) (w : World) (h : sha_Pad.f k a0 = some r) :
    Calls Tryd.prog 33 #[.int .i64 a0] w fun e w' => e = .returned (.string r) ∧ Below w.heap.size w w' := by
  have HB := Aside0.mk (Below.refl w.heap.size w)
  have H : (if a0 < 0 then (some (⟨#[]⟩ : ByteArray)) else (if 0 ≤ (wrap64 ((wrap64 (1 + (Int.tmod (wrap64 (119 - (Int.tmod a0 64))) 64))) + 8)) then (if (wrap64 ((wrap64 (1 + (Int.tmod (wrap64 (119 - (Int.tmod a0 64))) 64))) + 8) : Int).toNat ≤ 281474976710656 then ((some (List.replicate (wrap64 ((wrap64 (1 + (Int.tmod (wrap64 (119 - (Int.tmod a0 64))) 64))) + 8) : Int).toNat 0 : List Int)).bind fun y101 => (if 0 < (y101.length : Int) then (sha_Pad.l0 k (y101.set (0 : Int).toNat 128) (IntKind.u64.wrap ((IntKind.u64.wrap (a0)) * 8)) 0) else (none))) else (none)) else (none))) = some r := h
  clear h
  by_cases c2 : a0 < 0
  · rw [if_pos c2] at H
    have c2b0 : decide (a0 < 0) = true := decide_eq_true c2
    clear c2
    obtain rfl := Option.some.inj H
    go_enter Tryd.func33, Tryd.ntmps33
    go_wp2
    go_ret
    exact ⟨by first | rfl | (simp [errW_none, errW_some] <;> rfl) | (simp [*, errW_none, errW_some] <;> rfl), by repeat (first | (with_reducible first | exact HB.out | apply below_alloc | apply pw_below_drewN | apply below_drew1) | exact HB.out)⟩
  · rw [if_neg c2] at H
    have c2b0 : decide (a0 < 0) = false := decide_eq_false c2
    clear c2
    obtain ⟨ji3, hji3⟩ : ∃ j_ : Int, (wrap64 ((wrap64 (1 + (Int.tmod (wrap64 (119 - (Int.tmod a0 64))) 64))) + 8)) = j_ := ⟨_, rfl⟩
    replace H : (if 0 ≤ (ji3) then (if (ji3 : Int).toNat ≤ 281474976710656 then ((some (List.replicate (ji3 : Int).toNat 0 : List Int)).bind fun y101 => (if 0 < (y101.length : Int) then (sha_Pad.l0 k (y101.set (0 : Int).toNat 128) (IntKind.u64.wrap ((IntKind.u64.wrap (a0)) * 8)) 0) else (none))) else (none)) else (none)) = some r := by first | (rw [hji3] at H; exact H) | (simp only [hji3] at H ⊢; exact H)
    have hji3w : (IntKind.i64.wrap ((wrap64 (1 + (Int.tmod (wrap64 (119 - (Int.tmod a0 64))) 64))) + 8)) = ji3 := (i64_w _).trans hji3
    by_cases c4 : 0 ≤ (ji3)
    · rw [if_pos c4] at H
      have c4b0 := eq_true c4
      have c4b1 : decide (0 ≤ (ji3)) = true := decide_eq_true c4
      clear c4
      by_cases c5 : (ji3 : Int).toNat ≤ 281474976710656
      · rw [if_pos c5] at H
        have c5b0 := eq_true c5
        have c5b1 : decide ((ji3 : Int).toNat ≤ 281474976710656) = true := decide_eq_true c5
        clear c5
        obtain ⟨y101, hy101⟩ : ∃ y_ : List Int, y_ = (List.replicate (ji3 : Int).toNat 0) := ⟨_, rfl⟩
        replace H : (if 0 < (y101.length : Int) then (sha_Pad.l0 k (y101.set (0 : Int).toNat 128) (IntKind.u64.wrap ((IntKind.u64.wrap (a0)) * 8)) 0) else (none)) = some r := by first | (rw [hy101]; with_reducible exact H) | (have H2_ := (Option.bind_some _ _).symm.trans H; rw [hy101]; with_reducible exact H2_) | (have H2_ := (Option.bind_some _ _).symm.trans H; with_reducible exact H2_) | with_reducible exact H | (rw [hy101]; exact H) | exact H
        have Ny101 := Aside0.mk hy101
        clear hy101
        by_cases c6 : 0 < (y101.length : Int)
        · rw [if_pos c6] at H
          have c6b0 : decide (0 < (y101.length : Int)) = true := decide_eq_true c6
          have c6b1 : decide (0 < y101.length) = true := decide_eq_true (by omega)
          clear c6
          obtain ⟨y104, hy104⟩ : ∃ y_ : List Int, y_ = (y101.set (0 : Int).toNat 128) := ⟨_, rfl⟩
          replace H : (sha_Pad.l0 k y104 (IntKind.u64.wrap ((IntKind.u64.wrap (a0)) * 8)) 0) = some r := by first | (rw [hy104]; with_reducible exact H) | (have H2_ := (Option.bind_some _ _).symm.trans H; rw [hy104]; with_reducible exact H2_) | (have H2_ := (Option.bind_some _ _).symm.trans H; with_reducible exact H2_) | with_reducible exact H | (rw [hy104]; exact H) | exact H
          have Ny104 := Aside0.mk hy104
          clear hy104
          have H' := Aside0.mk H
          clear H
          go_enter Tryd.func33, Tryd.ntmps33
          go_wp2_with (first | ((with_reducible refine gate_dst (N := 16) rfl ?_); refine Kd.R_make (Kd.int .u8) _ 5 rfl (N := 16) rfl 34 _ _ rfl ji3 rfl rfl Tryd.underlying34 (.int .u8 0) 1 info5 rfl (by decide) (by omega) 0 (ok := fun _ => True) (okp := fun _ => True) rfl (fun _ hk => hk) trivial (of_decide_eq_true (by first | (with_reducible assumption) | assumption)) (Nat.le_trans (Nat.mul_le_mul_right _ (of_decide_eq_true (by first | (with_reducible assumption) | assumption) : ji3.toNat ≤ 281474976710656)) (by omega)) (Below.refl _ _) (Nat.le_refl _) ?_; intro v102 w8 ho9 hb hg_ hnew_; clear hg_ hnew_; (first | rw [← Ny101.out] at ho9 | (simp only [Int.reduceToNat] at ho9; rw [← Ny101.out] at ho9)); have n0_ := Aside0.mk (Kd.R_lower ho9 (below_size (by repeat (first | (with_reducible first | exact HB.out | apply below_alloc | apply pw_below_drewN | apply below_drew1) | exact HB.out)))); have n1_ := Aside0.mk (below_step (by repeat (first | (with_reducible first | exact HB.out | apply below_alloc | apply pw_below_drewN | apply below_drew1) | exact HB.out)) hb); clear HB; have HO103 := n0_; have HB := n1_; clear n0_ n1_; clear hb ho9; have p7 : 0 ≤ (0 : Int) := (by omega); have q7 : (0 : Int) < ((y101.length : Int) : Int) := of_decide_eq_true (by first | (with_reducible assumption) | assumption); have qi7 : (0 < y101.length) = True := eq_true (by omega); obtain ⟨go7, co7, eo7, gb7, gl7, cl7, HG7⟩ := Kd.R_form HO103.out (by omega); (first | cases eo7 | (injection eo7 with ea_ en_ ec_; (first | subst ea_ | (injection ea_ with ea_; subst ea_)); subst ec_; clear en_)); have GB7 := Aside0.mk gb7; have GG7 := Aside0.mk HG7; clear gb7 gl7 HG7; obtain ⟨hx7_0, hf7_0⟩ := Kd.R_celln 0 HO103.out (0 : Int) p7 q7; (try rw [show ((0 : Int)).toNat = 0 from rfl] at hx7_0); (try simp only [Nat.reduceMul, Nat.zero_mul, Nat.zero_add, Nat.reduceAdd] at hx7_0); (try rw [show ((0 : Int)).toNat = 0 from rfl] at hf7_0); (try simp only [Nat.reduceMul, Nat.zero_mul, Nat.zero_add, Nat.reduceAdd] at hf7_0); replace p7 := eq_true p7; replace q7 := eq_true q7; obtain ⟨hy10_, hz10_⟩ := Kd.R_celln 0 HO103.out (0 : Int) (by omega) (of_decide_eq_true (by first | (with_reducible assumption) | assumption)); (try simp only [Int.reduceToNat, Int.toNat_zero, Int.toNat_ofNat, Nat.reduceMul, Nat.zero_mul, Nat.zero_add] at hy10_ hz10_); (try rw [show ((0 : Int)).toNat = 0 from rfl] at hy10_); (try rw [show ((0 : Int)).toNat = 0 from rfl] at hz10_); have HP10 := Kd.R_putg HO103.out (0 : Int) 128) | ((with_reducible refine gate_store (t := 5) (p := 18) rfl ?_); refine store_event (t := 5) (p := 18) (v := ?vo_w11) (w1 := (w8.setCell ⟨go7, (0 : Int).toNat, none⟩ (.int .u8 128))) ?hg ?ho ?hn ?hr ?_; (case ho => rfl); (case hg => rfl); (case hn => rfl); (case hr => first | (go_simp; done) | (go_simp; rfl)); intro w11 hw; have hg : w8.grownBy w11 (some go7) := (by rw [hw]; exact HP10.2); have hp_ : Kd.R (Kd.int .u8) 5 w11 w.heap.size (fun _ => True) (.slice (some ⟨go7, 0, none⟩) y101.length co7) y104 := (by rw [hw, Ny104.out]; exact HP10.1); clear HP10; have n0_ := Aside0.mk (hp_); have n1_ := Aside0.mk ((by rw [hw]; exact below_set (HB.out) GB7.out : Below w.heap.size w w11)); clear HO103; clear HB; have HO103 := n0_; have HB := n1_; clear n0_ n1_; clear hg hw hp_))
          go_loopg [22] k (fun kq v22 w' => ∃ (x4_1 : List Int) (x22_1 : Int), v22 = .int .i64 x22_1 ∧ Aside0 (sha_Pad.l0 kq x4_1 (IntKind.u64.wrap ((IntKind.u64.wrap (a0)) * 8)) x22_1 = some r) ∧ Aside0 (kq ≤ k) ∧ Aside0 (Kd.R (Kd.int .u8) 5 w' w.heap.size (fun _ => True) (.slice (some ⟨go7, 0, none⟩) y101.length co7) x4_1) ∧ Aside0 (Below w.heap.size w w'))
          case atStart => exact ⟨(y104), (0), (by first | rfl | (simp; done) | (simp [*]; done)), H', ⟨Nat.le_refl _⟩, ⟨by (with_reducible repeat (first | apply Kd.R_alloc | apply Kd.R_drewN | apply Kd.R_drew)); exact HO103.out⟩, ⟨by repeat (first | (with_reducible first | exact HB.out | apply below_alloc | apply pw_below_drewN | apply below_drew1) | exact HB.out)⟩⟩
          case round =>
            clear H'
            try clear c2
            try clear c2b0
            try clear p2
            try clear c3
            try clear c4
            try clear c4b0
            try clear c4b1
            try clear c5
            try clear c5b0
            try clear c5b1
            try clear c6
            try clear c6b0
            try clear c6b1
            try clear p6
            try clear p7
            try clear q7
            try clear hx7
            try clear qi7
            try clear hf7
            try clear hx7_0
            try clear p7
            try clear q7
            obtain ⟨x4_1, x22_1, rfl, HA, HK1, HO_4, HB⟩ := hrel
            have hl4_1 := (Kd.R_reads' HO_4.out).1
            rw [hl4_1] at HO_4
            (try simp only [hl4_1])
            cases gk with
            | zero => exact absurd HA.out (by simp [sha_Pad.l0])
            | succ k1 =>
              have H := HA.out
              clear HA
              simp only [sha_Pad.l0] at H
              by_cases c12 : x22_1 < 8
              · rw [if_pos c12] at H
                have c12b0 : decide (x22_1 < 8) = true := decide_eq_true c12
                clear c12
                obtain ⟨ji13, hji13⟩ : ∃ j_ : Int, (wrap64 (8 * x22_1)) = j_ := ⟨_, rfl⟩
                replace H : (if 0 ≤ (ji13) then (if 0 ≤ (wrap64 ((wrap64 ((x4_1.length : Int) - 1)) - x22_1)) then (if (wrap64 ((wrap64 ((x4_1.length : Int) - 1)) - x22_1)) < (x4_1.length : Int) then (sha_Pad.l0 k1 (x4_1.set ((wrap64 ((wrap64 ((x4_1.length : Int) - 1)) - x22_1)) : Int).toNat ((shr .u64 (IntKind.u64.wrap ((IntKind.u64.wrap (a0)) * 8)) (ji13)) % 256)) (IntKind.u64.wrap ((IntKind.u64.wrap (a0)) * 8)) (wrap64 (x22_1 + 1))) else (none)) else (none)) else (none)) = some r := by first | (rw [hji13] at H; exact H) | (simp only [hji13] at H ⊢; exact H)
                have hji13w : (IntKind.i64.wrap (8 * x22_1)) = ji13 := (i64_w _).trans hji13
                by_cases c14 : 0 ≤ (ji13)
                · rw [if_pos c14] at H
                  have c14b0 := eq_true c14
                  have c14b1 : decide (0 ≤ (ji13)) = true := decide_eq_true c14
                  clear c14
                  obtain ⟨ji15, hji15⟩ : ∃ j_ : Int, (shr .u64 (IntKind.u64.wrap ((IntKind.u64.wrap (a0)) * 8)) (ji13)) = j_ := ⟨_, rfl⟩
                  replace H : (if 0 ≤ (wrap64 ((wrap64 ((x4_1.length : Int) - 1)) - x22_1)) then (if (wrap64 ((wrap64 ((x4_1.length : Int) - 1)) - x22_1)) < (x4_1.length : Int) then (sha_Pad.l0 k1 (x4_1.set ((wrap64 ((wrap64 ((x4_1.length : Int) - 1)) - x22_1)) : Int).toNat ((ji15) % 256)) (IntKind.u64.wrap ((IntKind.u64.wrap (a0)) * 8)) (wrap64 (x22_1 + 1))) else (none)) else (none)) = some r := by first | (rw [hji15] at H; exact H) | (simp only [hji15] at H ⊢; exact H)
                  have hji15_ : ((IntKind.u64.wrap ((IntKind.u64.wrap (a0)) * 8)) / 2 ^ min (ji13).toNat 64) = ji15 := hji15
                  have hji15z : (ji13) ≤ 64 → ((IntKind.u64.wrap ((IntKind.u64.wrap (a0)) * 8)) / 2 ^ (ji13).toNat) = ji15 := shr_small hji15
                  obtain ⟨ji16, hji16⟩ : ∃ j_ : Int, (wrap64 ((wrap64 ((x4_1.length : Int) - 1)) - x22_1)) = j_ := ⟨_, rfl⟩
                  replace H : (if 0 ≤ (ji16) then (if (ji16) < (x4_1.length : Int) then (sha_Pad.l0 k1 (x4_1.set ((ji16) : Int).toNat ((ji15) % 256)) (IntKind.u64.wrap ((IntKind.u64.wrap (a0)) * 8)) (wrap64 (x22_1 + 1))) else (none)) else (none)) = some r := by first | (rw [hji16] at H; exact H) | (simp only [hji16] at H ⊢; exact H)
                  have hji16w : (IntKind.i64.wrap ((wrap64 ((x4_1.length : Int) - 1)) - x22_1)) = ji16 := (i64_w _).trans hji16
                  by_cases c17 : 0 ≤ (ji16)
                  · rw [if_pos c17] at H
                    have c17b0 : decide (0 ≤ (ji16)) = true := decide_eq_true c17
                    clear c17
                    by_cases c18 : (ji16) < (x4_1.length : Int)
                    · rw [if_pos c18] at H
                      have c18b0 : decide ((ji16) < (x4_1.length : Int)) = true := decide_eq_true c18
                      clear c18
                      obtain ⟨y105, hy105⟩ : ∃ y_ : List Int, y_ = (x4_1.set ((ji16) : Int).toNat ((ji15) % 256)) := ⟨_, rfl⟩
                      replace H : (sha_Pad.l0 k1 y105 (IntKind.u64.wrap ((IntKind.u64.wrap (a0)) * 8)) (wrap64 (x22_1 + 1))) = some r := by first | (rw [hy105]; with_reducible exact H) | (have H2_ := (Option.bind_some _ _).symm.trans H; rw [hy105]; with_reducible exact H2_) | (have H2_ := (Option.bind_some _ _).symm.trans H; with_reducible exact H2_) | with_reducible exact H | (rw [hy105]; exact H) | exact H
                      have Ny105 := Aside0.mk hy105
                      clear hy105
                      have H' := Aside0.mk H
                      clear H
                      have p19 : 0 ≤ ((ji16) : Int) := of_decide_eq_true (by first | (with_reducible assumption) | assumption)
                      have q19 : ((ji16) : Int) < ((x4_1.length : Int) : Int) := of_decide_eq_true (by first | (with_reducible assumption) | assumption)
                      obtain ⟨hx19_0, hf19_0⟩ := Kd.R_celln 0 HO_4.out ((ji16) : Int) p19 q19
                      replace p19 := eq_true p19
                      replace q19 := eq_true q19
                      have HP20 := Kd.R_putg HO_4.out ((ji16) : Int) ((ji15) % 256)
                      go_wp2_with (first | ((with_reducible refine gate_store (t := 5) (p := 36) rfl ?_); refine store_event (t := 5) (p := 36) (v := ?vo_w21) (w1 := (wr.setCell ⟨go7, ((ji16) : Int).toNat, none⟩ (.int .u8 ((ji15) % 256)))) ?hg ?ho ?hn ?hr ?_; (case ho => rfl); (case hg => rfl); (case hn => rfl); (case hr => first | (go_simp; done) | (go_simp; rfl)); intro w21 hw; have hg : wr.grownBy w21 (some go7) := (by rw [hw]; exact HP20.2); have hp_ : Kd.R (Kd.int .u8) 5 w21 w.heap.size (fun _ => True) (.slice (some ⟨go7, 0, none⟩) x4_1.length co7) y105 := (by rw [hw, Ny105.out]; exact HP20.1); clear HP20; have n0_ := Aside0.mk (hp_); have n1_ := Aside0.mk ((by rw [hw]; exact below_set (HB.out) GB7.out : Below w.heap.size w w21)); clear HO_4; clear HB; have HO_4 := n0_; have HB := n1_; clear n0_ n1_; clear hg hw hp_))
                      (try simp only [← hl4_1])
                      go_roundg k1
                      case measure => have := HK1.out; omega
                      case rel => exact ⟨(y105), (wrap64 (x22_1 + 1)), (by first | rfl | (simp; done) | (simp [*]; done)), H', ⟨by have := HK1.out; omega⟩, ⟨by (try simp only [hl4_1]); (with_reducible repeat (first | apply Kd.R_alloc | apply Kd.R_drewN | apply Kd.R_drew)); exact HO_4.out⟩, ⟨by repeat (first | (with_reducible first | exact HB.out | apply below_alloc | apply pw_below_drewN | apply below_drew1) | exact HB.out)⟩⟩
                    · rw [if_neg c18] at H
                      exact absurd H (by simp)
                  · rw [if_neg c17] at H
                    exact absurd H (by simp)
                · rw [if_neg c14] at H
                  exact absurd H (by simp)
              · rw [if_neg c12] at H
                have c12b0 : decide (x22_1 < 8) = false := decide_eq_false c12
                clear c12
                obtain rfl := Option.some.inj H
                have hcv22 := own_string (P := Tryd.prog) Tryd.underlying34 Tryd.underlying5 Tryd.underlying9 (Kd.own_of_R HO_4.out)
                go_wp2
                go_ret
                exact ⟨by first | rfl | (simp [errW_none, errW_some] <;> rfl) | (simp only [← hji3]; first | rfl | (simp [errW_none, errW_some] <;> rfl)) | (simp [*, errW_none, errW_some] <;> rfl), by repeat (first | (with_reducible first | exact HB.out | apply below_alloc | apply pw_below_drewN | apply below_drew1) | exact HB.out)⟩
        · rw [if_neg c6] at H
          exact absurd H (by simp)
      · rw [if_neg c5] at H
        exact absurd H (by simp)
    · rw [if_neg c4] at H
      exact absurd H (by simp)

end Go.Proofs.YtdjhhljijpadoaaDoor.Q
/- SHA-256: Pad, as printed, is pad. -/
namespace Go.Proofs.YtdjhhljijpadoaaDoor.Sha
open Go.RowKit Go.Proofs.YtdjhhljijpadoaaDoorW.PrintWords Go.Proofs.YtdjhhljijpadoaaDoorW.PrintLast Go.Proofs.YtdjhhljijpadoaaDoorW.PrintMore Go.Proofs.YtdjhhljijpadoaaDoor.Bytes Go.Proofs.YtdjhhljijpadoaaDoor.Q
set_option linter.unusedVariables false
set_option linter.unusedSimpArgs false
/-- A byte of a number. -/
def nib (m i : Nat) : Int := ((m / 2 ^ (8 * i) % 256 : Nat) : Int)
theorem pad_round (k m i : Nat) (x4 : List Int) (hi : i < 8) (h9 : 9 ≤ x4.length) (hb : x4.length < 1000) : sha_Pad.l0 (k + 1) x4 (m : Int) (i : Int) = sha_Pad.l0 k (x4.set (x4.length - 1 - i) (nib m i)) (m : Int) ((i + 1 : Nat) : Int) := by
  have e1 : wrap64 (8 * (i : Int)) = ((8 * i : Nat) : Int) := by rw [w64 (by omega) (by omega)]; omega
  have e2 : wrap64 ((x4.length : Int) - 1) = ((x4.length - 1 : Nat) : Int) := by rw [w64 (by omega) (by omega)]; omega
  have e3 : wrap64 (((x4.length - 1 : Nat) : Int) - (i : Int)) = ((x4.length - 1 - i : Nat) : Int) := by rw [w64 (by omega) (by omega)]; omega
  have e4 : wrap64 ((i : Int) + 1) = ((i + 1 : Nat) : Int) := by rw [w64 (by omega) (by omega)]; omega
  have e5 : shr .u64 (m : Int) ((8 * i : Nat) : Int) % 256 = nib m i := by
    unfold shr nib
    rw [Int.toNat_natCast, Nat.min_eq_left (by show 8 * i ≤ 64; omega), Int.natCast_emod, Int.natCast_ediv, Int.natCast_pow]
    rfl
  rw [sha_Pad.l0, if_pos (by omega), e1, e2, e3, e4, e5, if_pos (Int.natCast_nonneg _), if_pos (Int.natCast_nonneg _), if_pos (by omega), Int.toNat_natCast]
theorem pad_last (k m : Nat) (x4 : List Int) : sha_Pad.l0 (k + 1) x4 (m : Int) ((8 : Nat) : Int) = some (strOfNums x4) := by
  rw [sha_Pad.l0, if_neg (by decide)]
theorem nib_byte (m i c : Nat) (h : 2 ^ (8 * i) = c) : UInt8.ofNat (nib m i).toNat = (m / c).toUInt8 := by
  unfold nib
  rw [Int.toNat_natCast, h]
  apply UInt8.toNat_inj.1
  show (UInt8.ofNat _).toNat = (UInt8.ofNat _).toNat
  rw [UInt8.toNat_ofNat', UInt8.toNat_ofNat']
  omega
theorem pad_f (n : Nat) (hn : n < 1152921504606846976) : sha_Pad.f 9 (n : Int) = some ⟨(pad n).toArray⟩ := by
  obtain ⟨z, hz⟩ : ∃ z, (119 - n % 64) % 64 = z := ⟨_, rfl⟩
  have hzl : z < 64 := by omega
  have t1 : Int.tmod (n : Int) 64 = ((n % 64 : Nat) : Int) := rfl
  have t2 : wrap64 (119 - ((n % 64 : Nat) : Int)) = ((119 - n % 64 : Nat) : Int) := by rw [w64 (by omega) (by omega)]; omega
  have t3 : Int.tmod ((119 - n % 64 : Nat) : Int) 64 = (z : Int) := by rw [← hz]; rfl
  have t4 : wrap64 (1 + (z : Int)) = ((z + 1 : Nat) : Int) := by rw [w64 (by omega) (by omega)]; omega
  have t5 : wrap64 (((z + 1 : Nat) : Int) + 8) = ((z + 9 : Nat) : Int) := by rw [w64 (by omega) (by omega)]; omega
  have t6 : IntKind.u64.wrap (n : Int) = (n : Int) := by rw [IntKind.wrap_u64]; omega
  have t7 : IntKind.u64.wrap ((n : Int) * 8) = ((n * 8 : Nat) : Int) := by rw [IntKind.wrap_u64]; omega
  have hrep : (List.replicate (z + 9) (0 : Int)).set 0 128 = 128 :: (List.replicate z 0 ++ [0, 0, 0, 0, 0, 0, 0, 0]) := by
    rw [show z + 9 = (z + 8) + 1 from rfl, List.replicate_succ, List.set_cons_zero, ← List.replicate_append_replicate]
    rfl
  have hset : ∀ (a0 a1 a2 a3 a4 a5 a6 a7 v : Int) (j : Nat), j < 8 → ((128 : Int) :: (List.replicate z 0 ++ [a0, a1, a2, a3, a4, a5, a6, a7])).set ((z + 9) - 1 - j) v = 128 :: (List.replicate z 0 ++ [a0, a1, a2, a3, a4, a5, a6, a7].set (7 - j) v) := fun a0 a1 a2 a3 a4 a5 a6 a7 v j hj => by
    rw [show z + 9 - 1 - j = (z + 7 - j) + 1 from by omega, List.set_cons_succ, List.set_append_right _ _ (by rw [List.length_replicate]; omega), List.length_replicate, show z + 7 - j - z = 7 - j from by omega]
  have hlen : ∀ (a0 a1 a2 a3 a4 a5 a6 a7 : Int), ((128 : Int) :: (List.replicate z 0 ++ [a0, a1, a2, a3, a4, a5, a6, a7])).length = z + 9 := fun a0 a1 a2 a3 a4 a5 a6 a7 => by
    rw [List.length_cons, List.length_append, List.length_replicate]
    rfl
  have hstep : ∀ (k i : Nat) (a0 a1 a2 a3 a4 a5 a6 a7 : Int), i < 8 → sha_Pad.l0 (k + 1) (128 :: (List.replicate z 0 ++ [a0, a1, a2, a3, a4, a5, a6, a7])) ((n * 8 : Nat) : Int) (i : Int) = sha_Pad.l0 k (128 :: (List.replicate z 0 ++ [a0, a1, a2, a3, a4, a5, a6, a7].set (7 - i) (nib (n * 8) i))) ((n * 8 : Nat) : Int) ((i + 1 : Nat) : Int) := fun k i a0 a1 a2 a3 a4 a5 a6 a7 hi => by
    rw [pad_round k (n * 8) i _ hi (by rw [hlen]; omega) (by rw [hlen]; omega), hlen, hset _ _ _ _ _ _ _ _ _ i hi]
  unfold sha_Pad.f
  rw [if_neg (by omega), t1, t2, t3, t4, t5, if_pos (Int.natCast_nonneg _), if_pos (by rw [Int.toNat_natCast]; omega), Int.toNat_natCast, Option.bind_some, if_pos (by rw [List.length_replicate]; omega), t6, t7, Int.toNat_zero, hrep]
  refine (hstep 8 0 _ _ _ _ _ _ _ _ (by decide)).trans ?_
  refine (hstep 7 1 _ _ _ _ _ _ _ _ (by decide)).trans ?_
  refine (hstep 6 2 _ _ _ _ _ _ _ _ (by decide)).trans ?_
  refine (hstep 5 3 _ _ _ _ _ _ _ _ (by decide)).trans ?_
  refine (hstep 4 4 _ _ _ _ _ _ _ _ (by decide)).trans ?_
  refine (hstep 3 5 _ _ _ _ _ _ _ _ (by decide)).trans ?_
  refine (hstep 2 6 _ _ _ _ _ _ _ _ (by decide)).trans ?_
  refine (hstep 1 7 _ _ _ _ _ _ _ _ (by decide)).trans ?_
  refine (pad_last 0 (n * 8) _).trans ?_
  unfold strOfNums pad
  rw [hz]
  congr 3
  simp only [List.map_cons, List.map_append, List.map_replicate, List.map_nil, List.set_cons_succ, List.set_cons_zero, Nat.sub_self, Nat.reduceSub]
  rw [nib_byte _ 7 72057594037927936 rfl, nib_byte _ 6 281474976710656 rfl, nib_byte _ 5 1099511627776 rfl, nib_byte _ 4 4294967296 rfl, nib_byte _ 3 16777216 rfl, nib_byte _ 2 65536 rfl, nib_byte _ 1 256 rfl, nib_byte _ 0 1 rfl, Nat.div_one]
  rfl
theorem pad_calls : PadCalls := fun n w hn => sha_Pad.calls 9 (n : Int) _ w (pad_f n hn)
end Go.Proofs.YtdjhhljijpadoaaDoor.Sha
/- string(a[:]) of an array of 32 bytes. -/
namespace Go.Proofs.YtdjhhljijpadoaaDoor.Sha
open Go.RowKit Go.Proofs.YtdjhhljijpadoaaDoorW.PrintWords Go.Proofs.YtdjhhljijpadoaaDoorW.PrintLast Go.Proofs.YtdjhhljijpadoaaDoorW.PrintMore Go.Proofs.YtdjhhljijpadoaaDoor.Bytes
set_option linter.unusedVariables false
set_option linter.unusedSimpArgs false
/-- string(b) of a whole block of bytes. -/
theorem convB (W : World) (g : Nat) (l : List UInt8) (t : TypeId) (n c : Nat) (hl : l.length = n) (h : W.heap[g]? = some (.cells (l.map bcell).toArray t (0, 0))) : (convert 34 9 (.slice (some ⟨g, 0, none⟩) n c)).run Tryd.prog W = .ok (.string ⟨l.toArray⟩) W := by
  have := run_convert_bytes_back (P := Tryd.prog) W 34 9 5 ⟨g, 0, none⟩ c l Tryd.underlying34 Tryd.underlying5 Tryd.underlying9 (fun j hj => by
    rw [Addr.add_mid]
    simp only [World.cell?, h, List.getElem?_toArray, Nat.zero_add]
    rw [List.getElem?_map, List.getElem?_eq_getElem hj]
    rfl)
  rw [hl] at this
  exact this
theorem conv32 (W : World) (g : Nat) (l : List UInt8) (t : TypeId) (hl : l.length = 32) (h : W.heap[g]? = some (.cells (l.map bcell).toArray t (0, 0))) : (convert 34 9 (.slice (some ⟨g, 0, none⟩) 32 32)).run Tryd.prog W = .ok (.string ⟨l.toArray⟩) W := convB W g l t 32 32 hl h
end Go.Proofs.YtdjhhljijpadoaaDoor.Sha
/- seal.Mac, walked. -/
namespace Go.Proofs.YtdjhhljijpadoaaDoor.Sha
open Go.RowKit Go.Proofs.YtdjhhljijpadoaaDoor.Q Go.Proofs.YtdjhhljijpadoaaDoorW.PrintWords Go.Proofs.YtdjhhljijpadoaaDoorW.PrintLast Go.Proofs.YtdjhhljijpadoaaDoorW.PrintMore Go.Proofs.YtdjhhljijpadoaaDoor.Bytes
set_option linter.unusedVariables false
set_option linter.unusedSimpArgs false
/-- A key, filled up with noughts. -/
def pad64 (k : List UInt8) : List UInt8 := k ++ List.replicate (64 - k.length) 0
def keyOf (k : List UInt8) : List UInt8 := if 64 < k.length then of k else k
def mac (key text : List UInt8) : List UInt8 := of ((pad64 (keyOf key)).map (· ^^^ 92) ++ of ((pad64 (keyOf key)).map (· ^^^ 54) ++ text))
theorem keyOf_len (k : List UInt8) : (keyOf k).length ≤ 64 := by
  unfold keyOf
  split
  · rw [of_len]; decide
  · omega
theorem pad64_len (k : List UInt8) (h : k.length ≤ 64) : (pad64 k).length = 64 := by rw [pad64, List.length_append, List.length_replicate]; omega
theorem B_xor8 (x y : UInt8) : bits .xor .u8 (B x) (B y) = B (x ^^^ y) := by
  have hx : ∀ z : UInt8, BitVec.ofInt 8 (B z) = z.toBitVec := fun z => by
    unfold B
    rw [BitVec.ofInt_natCast]
    show BitVec.ofNat 8 z.toBitVec.toNat = _
    rw [BitVec.ofNat_toNat, BitVec.setWidth_eq]
  show IntKind.u8.wrap (((BitVec.ofInt 8 (B x) ^^^ BitVec.ofInt 8 (B y)).toNat : Nat) : Int) = _
  rw [hx, hx, IntKind.wrap_u8]
  have := (x ^^^ y).toNat_lt
  show (((x ^^^ y).toNat : Nat) : Int) % 256 = _
  unfold B
  omega
theorem B_xor54 (x : UInt8) : bits .xor .u8 (B x) 54 = B (x ^^^ 54) := B_xor8 x 54
theorem B_xor92 (x : UInt8) : bits .xor .u8 (B x) 92 = B (x ^^^ 92) := B_xor8 x 92
/-- The first i bytes turned. -/
def mixb (c : UInt8) (l : List UInt8) (i : Nat) : List UInt8 := (l.take i).map (· ^^^ c) ++ l.drop i
theorem mixb_len (c : UInt8) (l : List UInt8) (i : Nat) : (mixb c l i).length = l.length := by
  rw [mixb, List.length_append, List.length_map, List.length_take, List.length_drop]; omega
theorem mixb_zero (c : UInt8) (l : List UInt8) : mixb c l 0 = l := by simp [mixb]
theorem mixb_all (c : UInt8) (l : List UInt8) : mixb c l l.length = l.map (· ^^^ c) := by simp [mixb]
theorem mixb_get (c : UInt8) (l : List UInt8) (i : Nat) (h : i < l.length) : (mixb c l i)[i]? = some l[i] := by
  rw [mixb, List.getElem?_append_right (by rw [List.length_map, List.length_take]; omega), List.length_map, List.length_take, List.getElem?_drop, show i + (i - min i l.length) = i from by omega, List.getElem?_eq_getElem h]
theorem mixb_set (c : UInt8) (l : List UInt8) (i : Nat) (h : i < l.length) : (mixb c l i).set i (l[i] ^^^ c) = mixb c l (i + 1) := by
  unfold mixb
  have ht : ((l.take i).map (· ^^^ c)).length = i := by rw [List.length_map, List.length_take]; omega
  rw [List.set_append_right _ _ (by omega), ht, Nat.sub_self, List.drop_eq_getElem_cons h, List.set_cons_zero, List.take_succ_eq_append_getElem h, List.map_append, List.append_assoc]
  rfl
theorem copy_key (k : List UInt8) (h : k.length ≤ 64) : ((List.replicate 64 (Value.int .u8 0)).take 0 ++ (k.take k.length).map bcell ++ (List.replicate 64 (Value.int .u8 0)).drop (0 + k.length)).toArray = ((pad64 k).map bcell).toArray := by
  rw [List.take_zero, List.nil_append, List.take_length, Nat.zero_add, List.drop_replicate]
  unfold pad64
  rw [List.map_append, List.map_replicate]
  rfl
/-- Mac's boxes: the answer, the two turned keys; the state. -/
structure Mk (p6 pb : Nat) (w W : World) (i o : List UInt8) : Prop where
  rb : W.heap[w.heap.size]? = some (.cells (List.replicate 32 (Value.int .u8 0)).toArray 29 (0, 0))
  ib : W.heap[p6]? = some (.cells (i.map bcell).toArray 49 (0, 0))
  ob : W.heap[p6 + 1]? = some (.cells (o.map bcell).toArray 49 (0, 0))
  o1 : w.heap.size < p6
  o2 : p6 + 1 < pb
  below : Below w.heap.size w W
section
variable {p6 pb : Nat} {w W W2 : World} {i o : List UInt8}
theorem Mk.lt (k : Mk p6 pb w W i o) : p6 + 1 < W.heap.size := (Array.getElem?_eq_some_iff.1 k.ob).1
theorem Mk.keep (k : Mk p6 pb w W i o) (hb : Below W.heap.size W W2) : Mk p6 pb w W2 i o := by
  have z := k.lt
  have z1 := k.o1
  exact ⟨(hb.block _ (by omega)).trans k.rb, (hb.block _ (by omega)).trans k.ib, (hb.block _ (by omega)).trans k.ob, z1, k.o2, k.below.trans (hb.mono (by omega))⟩
theorem Mk.turn {s : Sd} (k : Mk p6 pb w W i o) (h : Turn W W2 pb s) : Mk p6 pb w W2 i o := by
  have z := k.lt
  have z1 := k.o1
  have z2 := k.o2
  exact ⟨(h.2.block _ (by omega) (by intro e; injection e; omega)).trans k.rb, (h.2.block _ (by omega) (by intro e; injection e; omega)).trans k.ib, (h.2.block _ (by omega) (by intro e; injection e; omega)).trans k.ob, z1, z2, below_of_grown k.below h.2 (by omega) k.below.size⟩
end
attribute [local go_sem] B_xor54 B_xor92
set_option maxRecDepth 100000 in
set_option maxHeartbeats 8000000 in
theorem mac_calls (key text : ByteArray) (w : World) (hG : Glob w) (hk : key.size < 1152921504606846976) (ht : text.size < 1152921504606846000) : Calls Tryd.prog 9 #[.string key, .string text] w fun e w' => e = .returned (.agg ((mac (bs key) (bs text)).map bcell).toArray) ∧ Below w.heap.size w w' := by
  have HR28 : Aside0 ((Tryd.prog.info? 29).map (·.size) = some 32) := ⟨by kernel_rfl⟩
  have HG := Aside0.mk hG
  obtain ⟨W1, hW1⟩ : ∃ W1, w.alloc (.cells (List.replicate 32 (Value.int .u8 0)).toArray 29) = W1 := ⟨_, rfl⟩
  have HB1 : Aside0 (Below w.heap.size w W1) := ⟨by rw [← hW1]; exact (Below.refl w.heap.size w).alloc (Nat.le_refl _) _⟩
  have HX1 : Aside0 (W1.heap[w.heap.size]? = some (.cells (List.replicate 32 (Value.int .u8 0)).toArray 29 (0, 0))) := ⟨by rw [← hW1]; exact World.alloc_heap_new w _⟩
  have CO := Aside0.mk (fun W (h : Below w.heap.size w W) => of_calls pad_calls key W (hG.below h hG.lt) hk)
  obtain ⟨O, hO⟩ : ∃ O, of key.data.toList = O := ⟨_, rfl⟩
  have HOL := Aside0.mk (show O.length = 32 from by rw [← hO]; exact of_len _)
  have HO := Aside0.mk (show of (bs key) = O from hO)
  rw [hO] at CO
  clear hG hO
  go_enter Tryd.func9, Tryd.ntmps9
  go_upto_region 1 with fail
  change Code.wp _ _ _ _ (w.alloc (.cells (List.replicate 32 (Value.int .u8 0)).toArray 29))
  rw [hW1]
  clear hW1
  go_upto_if 13 with fail
  go_cut [0] (fun s0 wx => ∃ kk : ByteArray, s0 = .string kk ∧ bs kk = keyOf (bs key) ∧ Aside0 (Below w.heap.size w wx) ∧ Aside0 (wx.heap[w.heap.size]? = some (.cells (List.replicate 32 (Value.int .u8 0)).toArray 29 (0, 0))))
  case first =>
    by_cases h64 : 64 < key.size
    · have d1 : decide (64 < (key.size : Int)) = true := decide_eq_true (by omega)
      have hko : keyOf (bs key) = O := by unfold keyOf; rw [if_pos (by rw [← size_bs]; exact h64)]; exact HO.out
      go_wp2_with (first
        | (go_at_call 11; ((with_reducible refine (CO.out _ HB1.out).mono ?_)); rintro e w10 ⟨rfl, hb10⟩; have HB10 := Aside0.mk (HB1.out.trans (hb10.mono HB1.out.size)); have HX10 := Aside0.mk ((hb10.block _ (Array.getElem?_eq_some_iff.1 HX1.out).1).trans HX1.out); clear hb10)
        | ((with_reducible refine gate_store (t := 29) (p := 5) rfl ?_); refine wpList_store_row' rfl 29 (.tmp 5) (.tmp 15) rfl w10.heap.size 29 (List.replicate 32 (Value.int .u8 0)).toArray (O.map bcell).toArray rfl rfl (World.alloc_heap_new w10 _) (by rw [List.size_toArray, List.length_map, HOL.out]; exact HR28.out) (by rw [List.size_toArray, List.size_toArray, List.length_map, HOL.out]; rfl) (all_oneCell_toArray fun u hu => by obtain ⟨y, _, rfl⟩ := List.mem_map.1 hu; rfl) ?_; intro w11 hw11; have hcv11 := conv32 w11 w10.heap.size O 29 HOL.out (by rw [hw11]; exact setRow_heap _ _ _ _ _ _ (World.alloc_heap_new w10 _)); have HB11 : Aside0 (Below w.heap.size w w11) := ⟨by rw [hw11]; exact below_setRow (HB10.out.alloc HB10.out.size _) HB10.out.size _⟩; have HX11 : Aside0 (w11.heap[w.heap.size]? = some (.cells (List.replicate 32 (Value.int .u8 0)).toArray 29 (0, 0))) := ⟨by rw [hw11]; exact (setRow_other _ _ _ _ (Nat.ne_of_lt (Array.getElem?_eq_some_iff.1 HX10.out).1)).trans ((((Below.refl w10.heap.size w10).alloc (Nat.le_refl _) _).block _ (Array.getElem?_eq_some_iff.1 HX10.out).1).trans HX10.out)⟩; clear hw11))
      go_meet
      exact ⟨_, rfl, by rw [bs_mk, hko], HB11, HX11⟩
    · have d1 : decide (64 < (key.size : Int)) = false := decide_eq_false (by omega)
      have hko : keyOf (bs key) = bs key := by unfold keyOf; rw [if_neg (by rw [← size_bs]; exact h64)]
      go_wp2
      go_meet
      exact ⟨_, rfl, hko.symm, HB1, HX1⟩
  case rest =>
    obtain ⟨kk, rfl, hkk, HBX, HXX⟩ := hcut
    have hkl : kk.size ≤ 64 := by rw [size_bs, hkk]; exact keyOf_len _
    obtain ⟨L, hL⟩ : ∃ L, pad64 (bs kk) = L := ⟨_, rfl⟩
    have HLL := Aside0.mk (show L.length = 64 from by rw [← hL]; exact pad64_len _ (by rw [← size_bs]; exact hkl))
    have HLK := Aside0.mk (show pad64 (keyOf (bs key)) = L from by rw [← hkk]; exact hL)
    have a1 : ∀ (W : World) (o : Obj), (W.alloc o).heap.size = W.heap.size + 1 := fun W o => Array.size_push _
    obtain ⟨W2, hW2⟩ : ∃ W2, (wc.alloc (.cells (List.replicate 64 (Value.int .u8 0)).toArray 49)).alloc (.cells (List.replicate 64 (Value.int .u8 0)).toArray 49) = W2 := ⟨_, rfl⟩
    have HB2 : Aside0 (Below wc.heap.size wc W2) := ⟨by rw [← hW2]; exact ((Below.refl wc.heap.size wc).alloc (Nat.le_refl _) _).alloc (by rw [a1]; omega) _⟩
    have HI2 : Aside0 (W2.heap[wc.heap.size]? = some (.cells (List.replicate 64 (Value.int .u8 0)).toArray 49 (0, 0))) := ⟨by
      rw [← hW2, ((Below.refl (wc.alloc (.cells (List.replicate 64 (Value.int .u8 0)).toArray 49)).heap.size _).alloc (Nat.le_refl _) _).block _ (by rw [a1]; omega)]
      exact World.alloc_heap_new wc _⟩
    have HJ2 : Aside0 (W2.heap[wc.heap.size + 1]? = some (.cells (List.replicate 64 (Value.int .u8 0)).toArray 49 (0, 0))) := ⟨by
      rw [← hW2]
      have := World.alloc_heap_new (wc.alloc (.cells (List.replicate 64 (Value.int .u8 0)).toArray 49)) (.cells (List.replicate 64 (Value.int .u8 0)).toArray 49)
      rw [a1] at this
      exact this⟩
    have HK2 : Aside0 (w.heap.size < wc.heap.size) := ⟨(Array.getElem?_eq_some_iff.1 HXX.out).1⟩
    clear a1
    go_upto_region 5 with fail
    change Code.wp _ _ _ _ ((wc.alloc (.cells (List.replicate 64 (Value.int .u8 0)).toArray 49)).alloc (.cells (List.replicate 64 (Value.int .u8 0)).toArray 49))
    rw [hW2]
    clear hW2
    have HX2 : Aside0 (W2.heap[w.heap.size]? = some (.cells (List.replicate 32 (Value.int .u8 0)).toArray 29 (0, 0))) := ⟨(HB2.out.block _ HK2.out).trans HXX.out⟩
    have HBB2 : Aside0 (Below w.heap.size w W2) := ⟨HBX.out.trans (HB2.out.mono HBX.out.size)⟩
    generalize wc.heap.size = p6 at HI2 HJ2 HK2 ⊢
    clear HB2 HBX HXX
    have hmin : Nat.min kk.size 64 = kk.size := Nat.min_eq_left hkl
    have hlk : kk.data.toList.length = kk.size := (Lib.size_eq kk).symm
    have hck : ((List.replicate 64 (Value.int .u8 0)).toArray.toList.take 0 ++ (kk.data.toList.take kk.size).map bcell ++ (List.replicate 64 (Value.int .u8 0)).toArray.toList.drop (0 + kk.size)).toArray = (L.map bcell).toArray := by
      have := copy_key (bs kk) (by rw [← size_bs]; exact hkl)
      rw [hL, ← size_bs] at this
      exact this
    go_wp2_with (first
      | ((with_reducible refine gate_builtin (b := .copy) (xs := #[.tmp 18, .tmp 19]) rfl ?_); refine wpList_copy_text rfl (.tmp 18) (.tmp 19) 34 9 rfl 5 Tryd.underlying34 (by kernel_rfl) p6 0 64 64 kk.size kk rfl rfl _ _ HI2.out hmin (by rw [Nat.zero_add]; exact hkl) ?_; rw [hck]; generalize hW3 : W2.setRow p6 (L.map bcell).toArray = W3; have HI3 : Aside0 (W3.heap[p6]? = some (.cells (L.map bcell).toArray 49 (0, 0))) := ⟨by rw [← hW3]; exact setRow_heap _ _ _ _ _ _ HI2.out⟩; have HJ3 : Aside0 (W3.heap[p6 + 1]? = some (.cells (List.replicate 64 (Value.int .u8 0)).toArray 49 (0, 0))) := ⟨by rw [← hW3]; exact (setRow_other _ _ _ _ (by omega)).trans HJ2.out⟩; have HX3 : Aside0 (W3.heap[w.heap.size]? = some (.cells (List.replicate 32 (Value.int .u8 0)).toArray 29 (0, 0))) := ⟨by rw [← hW3]; exact (setRow_other _ _ _ _ (by have := HK2.out; omega)).trans HX2.out⟩; have HB3 : Aside0 (Below w.heap.size w W3) := ⟨by rw [← hW3]; exact below_setRow HBB2.out (by have := HK2.out; omega) _⟩; clear hW3)
      | ((with_reducible refine gate_builtin (b := .copy) (xs := #[.tmp 21, .tmp 22]) rfl ?_); refine wpList_copy_text rfl (.tmp 21) (.tmp 22) 34 9 rfl 5 Tryd.underlying34 (by kernel_rfl) (p6 + 1) 0 64 64 kk.size kk rfl rfl _ _ HJ3.out hmin (by rw [Nat.zero_add]; exact hkl) ?_; rw [hck]; generalize hW4 : W3.setRow (p6 + 1) (L.map bcell).toArray = W4; have HI4 : Aside0 (W4.heap[p6]? = some (.cells (L.map bcell).toArray 49 (0, 0))) := ⟨by rw [← hW4]; exact (setRow_other _ _ _ _ (by omega)).trans HI3.out⟩; have HJ4 : Aside0 (W4.heap[p6 + 1]? = some (.cells (L.map bcell).toArray 49 (0, 0))) := ⟨by rw [← hW4]; exact setRow_heap _ _ _ _ _ _ HJ3.out⟩; have HX4 : Aside0 (W4.heap[w.heap.size]? = some (.cells (List.replicate 32 (Value.int .u8 0)).toArray 29 (0, 0))) := ⟨by rw [← hW4]; exact (setRow_other _ _ _ _ (by have := HK2.out; omega)).trans HX3.out⟩; have HB4 : Aside0 (Below w.heap.size w W4) := ⟨by rw [← hW4]; exact below_setRow HB3.out (by have := HK2.out; omega) _⟩; clear hW4))
    clear HI2 HJ2 HX2 HBB2 HI3 HJ3 HX3 HB3 hck hmin hlk
    go_loopg [24] 64 (fun g v24 wx => ∃ i : Nat, i + g = 64 ∧ v24 = .int .i64 (i : Int) ∧ Aside0 (wx.heap[p6]? = some (.cells ((mixb 54 L i).map bcell).toArray 49 (0, 0))) ∧ Aside0 (wx.heap[p6 + 1]? = some (.cells ((mixb 92 L i).map bcell).toArray 49 (0, 0))) ∧ Aside0 (wx.heap[w.heap.size]? = some (.cells (List.replicate 32 (Value.int .u8 0)).toArray 29 (0, 0))) ∧ Aside0 (Below w.heap.size w wx))
    case atStart => exact ⟨0, by omega, rfl, ⟨by rw [mixb_zero]; exact HI4.out⟩, ⟨by rw [mixb_zero]; exact HJ4.out⟩, HX4, HB4⟩
    case round =>
      clear HI4 HJ4 HX4 HB4
      obtain ⟨i, hig, rfl, HI, HJ, HX, HBW⟩ := hrel
      cases gk with
      | zero =>
        obtain rfl : i = 64 := by omega
        have d1 : decide ((64 : Int) < 64) = false := by decide
        obtain ⟨ik, hik⟩ : ∃ ik, mixb 54 L 64 = ik := ⟨_, rfl⟩
        obtain ⟨ok, hok⟩ : ∃ ok, mixb 92 L 64 = ok := ⟨_, rfl⟩
        have HIK := Aside0.mk (show L.map (· ^^^ 54) = ik ∧ L.map (· ^^^ 92) = ok ∧ ik.length = 64 ∧ ok.length = 64 from ⟨by rw [← hik, ← mixb_all, HLL.out], by rw [← hok, ← mixb_all, HLL.out], by rw [← hik, mixb_len]; exact HLL.out, by rw [← hok, mixb_len]; exact HLL.out⟩)
        rw [hik] at HI
        rw [hok] at HJ
        clear hik hok
        have CN := Aside0.mk (new_calls wr (HG.out.below HBW.out HG.out.lt))
        obtain ⟨pb, hpb⟩ : ∃ pb, wr.heap.size = pb := ⟨_, rfl⟩
        have HMK : Aside0 (Mk p6 pb w wr ik ok) := ⟨⟨HX.out, HI.out, HJ.out, HK2.out, by rw [← hpb]; exact (Array.getElem?_eq_some_iff.1 HJ.out).1, HBW.out⟩⟩
        have HG2 := Aside0.mk (show 2 ≤ pb from by have := HG.out.lt; have := HMK.out.o1; have := HMK.out.o2; omega)
        rw [hpb] at CN
        have HPS := Aside0.mk hpb
        have HT := Aside0.mk (show text.size < 1152921504606846000 from ht)
        have GB := Aside0.mk (fun W (h : Below w.heap.size w W) => HG.out.below h HG.out.lt)
        have W1c := Aside0.mk (fun (s : Sd) (l : List UInt8) (W : World) (hs : s.At W pb) (hl : s.Holds l) (hm : Mk p6 pb w W ik ok) (hn : l.length = 0) => write_calls s l pb p6 ik 49 W hs hl (GB.out W hm.below) HG2.out (by have := hm.o2; omega) hm.ib (by have := HIK.out.2.2.1; omega))
        have W2c := Aside0.mk (fun (s : Sd) (l : List UInt8) (W : World) (hs : s.At W pb) (hl : s.Holds l) (hm : Mk p6 pb w W ik ok) (hn : l.length = 0) => write_calls s l pb (p6 + 1) ok 49 W hs hl (GB.out W hm.below) HG2.out (by have := hm.o2; omega) hm.ob (by have := HIK.out.2.2.2; omega))
        rw [HIK.out.2.2.1] at W1c
        rw [HIK.out.2.2.2] at W2c
        have T1c := Aside0.mk (fun (s : Sd) (W : World) (hs : s.At W pb) (hl : s.Holds ik) (hm : Mk p6 pb w W ik ok) => writeText_calls s ik pb text W hs hl (GB.out W hm.below) HG2.out (by have := HIK.out.2.2.1; have := HT.out; omega))
        have S1c := Aside0.mk (fun (s : Sd) (l : List UInt8) (W : World) (hs : s.At W pb) (hl : s.Holds l) (hm : Mk p6 pb w W ik ok) (hn : l.length < 1152921504606846976) => sum_calls pad_calls s l pb W hs hl (GB.out W hm.below) hn)
        have R1c := Aside0.mk (fun (s : Sd) (W : World) (hs : s.At W pb) (hm : Mk p6 pb w W ik ok) => reset_calls s pb W hs (GB.out W hm.below))
        have hts : text.data.toList.length = text.size := (Lib.size_eq text).symm
        have HTS := Aside0.mk hts
        obtain ⟨F, hF⟩ : ∃ F, of (ik ++ text.data.toList) = F := ⟨_, rfl⟩
        have HFL := Aside0.mk (show F.length = 32 from by rw [← hF]; exact of_len _)
        obtain ⟨R, hR⟩ : ∃ R, of (ok ++ F) = R := ⟨_, rfl⟩
        have HRL := Aside0.mk (show R.length = 32 from by rw [← hR]; exact of_len _)
        have HMAC := Aside0.mk (show mac (bs key) (bs text) = R from by
          unfold mac
          rw [HLK.out, HIK.out.1, HIK.out.2.1]
          rw [show bs text = text.data.toList from rfl, hF, hR])
        have HF := Aside0.mk hF
        have HR := Aside0.mk hR
        have W3c := Aside0.mk (fun (s : Sd) (W : World) (p10 : Nat) (hs : s.At W pb) (hl : s.Holds ok) (hm : Mk p6 pb w W ik ok) (hp : p10 ≠ pb) (hx : W.heap[p10]? = some (.cells (F.map bcell).toArray 29 (0, 0))) => write_calls s ok pb p10 F 29 W hs hl (GB.out W hm.below) HG2.out hp hx (by have := HIK.out.2.2.2; have := HFL.out; omega))
        rw [HFL.out] at W3c
        clear HI HJ HX HBW hF hR hts ht hpb
        go_wp2_with (first
          | (go_at_call 20; ((with_reducible refine CN.out.mono ?_)); rintro e w9 ⟨rfl, hA, hB⟩; have HA9 := Aside0.mk hA; have HM9 := Aside0.mk (HMK.out.keep (by rw [HPS.out]; exact hB)); clear hA hB)
          | (go_at_call 21; ((with_reducible refine (W1c.out _ [] w9 HA9.out holds_new HM9.out rfl).mono ?_)); rintro e w10 ⟨rfl, s1, hT, hH⟩; have HA10 := Aside0.mk hT.1; have HH10 := Aside0.mk (show s1.Holds ik from hH); have HM10 := Aside0.mk (HM9.out.turn hT); clear hT hH)
          | (go_at_call 22; ((with_reducible refine (T1c.out s1 w10 HA10.out HH10.out HM10.out).mono ?_)); rintro e w11 ⟨rfl, s2, hT, hH⟩; have HA11 := Aside0.mk hT.1; have HH11 := Aside0.mk (show s2.Holds (ik ++ text.data.toList) from hH); have HM11 := Aside0.mk (HM10.out.turn hT); clear hT hH)
          | (go_at_call 23; ((with_reducible refine (S1c.out s2 (ik ++ text.data.toList) w11 HA11.out HH11.out HM11.out (by have := HIK.out.2.2.1; have := HTS.out; have := HT.out; rw [List.length_append]; omega)).mono ?_)); rintro e w12 ⟨rfl, hb12⟩; have HA12 := Aside0.mk (HA11.out.keep hb12); have HM12 := Aside0.mk (HM11.out.keep hb12); rw [HF.out]; clear hb12)
          | ((with_reducible refine gate_store (t := 29) (p := 10) rfl ?_); refine wpList_store_row' rfl 29 (.tmp 10) (.tmp 46) rfl w12.heap.size 29 (List.replicate 32 (Value.int .u8 0)).toArray (F.map bcell).toArray rfl rfl (World.alloc_heap_new w12 _) (by rw [List.size_toArray, List.length_map, HFL.out]; exact HR28.out) (by rw [List.size_toArray, List.size_toArray, List.length_map, HFL.out]; rfl) (all_oneCell_toArray fun u hu => by obtain ⟨y, _, rfl⟩ := List.mem_map.1 hu; rfl) ?_; intro w13 hw13; have HB13 : Aside0 (Below w12.heap.size w12 w13 ∧ w13.heap[w12.heap.size]? = some (.cells (F.map bcell).toArray 29 (0, 0))) := ⟨by rw [hw13]; exact ⟨below_setRow ((Below.refl _ _).alloc (Nat.le_refl _) _) (Nat.le_refl _) _, setRow_heap _ _ _ _ _ _ (World.alloc_heap_new w12 _)⟩⟩; have HA13 := Aside0.mk (HA12.out.keep HB13.out.1); have HM13 := Aside0.mk (HM12.out.keep HB13.out.1); have HP10 : Aside0 (pb < w12.heap.size) := ⟨HA12.out.lt⟩; have HX13 := Aside0.mk HB13.out.2; clear hw13; generalize w12.heap.size = p10 at HX13 HP10 ⊢)
          | (go_at_call 24; ((with_reducible refine (R1c.out s2 w13 HA13.out HM13.out).mono ?_)); rintro e w14 ⟨rfl, hT⟩; have HA14 := Aside0.mk hT.1; have HM14 := Aside0.mk (HM13.out.turn hT); have HX14 := Aside0.mk ((hT.2.block p10 (Array.getElem?_eq_some_iff.1 HX13.out).1 (by intro e; injection e; have := HP10.out; omega)).trans HX13.out); clear hT)
          | (go_at_call 21; ((with_reducible refine (W2c.out _ [] w14 HA14.out holds_new HM14.out rfl).mono ?_)); rintro e w15 ⟨rfl, s3, hT, hH⟩; have HA15 := Aside0.mk hT.1; have HH15 := Aside0.mk (show s3.Holds ok from hH); have HM15 := Aside0.mk (HM14.out.turn hT); have HX15 := Aside0.mk ((hT.2.block p10 (Array.getElem?_eq_some_iff.1 HX14.out).1 (by intro e; injection e; have := HP10.out; omega)).trans HX14.out); clear hT hH)
          | (go_at_call 21; ((with_reducible refine (W3c.out s3 w15 p10 HA15.out HH15.out HM15.out (by have := HP10.out; omega) HX15.out).mono ?_)); rintro e w16 ⟨rfl, s4, hT, hH⟩; have HA16 := Aside0.mk hT.1; have HH16 := Aside0.mk (show s4.Holds (ok ++ F) from hH); have HM16 := Aside0.mk (HM15.out.turn hT); clear hT hH)
          | (go_at_call 23; ((with_reducible refine (S1c.out s4 (ok ++ F) w16 HA16.out HH16.out HM16.out (by have := HIK.out.2.2.2; have := HFL.out; rw [List.length_append]; omega)).mono ?_)); rintro e w17 ⟨rfl, hb17⟩; have HM17 := Aside0.mk (HM16.out.keep hb17); rw [HR.out]; clear hb17)
          | ((with_reducible refine gate_store (t := 29) (p := 4) rfl ?_); refine wpList_store_row' rfl 29 (.tmp 4) (.tmp 56) rfl w.heap.size 29 (List.replicate 32 (Value.int .u8 0)).toArray (R.map bcell).toArray rfl rfl HM17.out.rb (by rw [List.size_toArray, List.length_map, HRL.out]; exact HR28.out) (by rw [List.size_toArray, List.size_toArray, List.length_map, HRL.out]; rfl) (all_oneCell_toArray fun u hu => by obtain ⟨y, _, rfl⟩ := List.mem_map.1 hu; rfl) ?_; intro w18 hw18; have HX18 : Aside0 (w18.heap[w.heap.size]? = some (.cells (R.map bcell).toArray 29 (0, 0))) := ⟨by rw [hw18]; exact setRow_heap _ _ _ _ _ _ HM17.out.rb⟩; have HB18 : Aside0 (Below w.heap.size w w18) := ⟨by rw [hw18]; exact below_setRow HM17.out.below (Nat.le_refl _) _⟩; clear hw18))
        rw [HMAC.out]
        exact bodyPost_ret (v := .agg (R.map bcell).toArray) (results_cell_row rfl _ _ w.heap.size 29 (R.map bcell).toArray (0, 0) _ rfl HX18.out Tryd.underlying29 rfl (by rw [List.size_toArray, List.length_map, HRL.out]; exact HR28.out)) rfl ⟨rfl, HB18.out⟩
      | succ k1 =>
        have hi : i < L.length := by rw [HLL.out]; omega
        have d1 : decide ((i : Int) < 64) = true := decide_eq_true (by omega)
        have p9 : (0 ≤ (i : Int)) = True := eq_true (by omega)
        have q9 : ((i : Int) < 64) = True := eq_true (by omega)
        obtain ⟨x, hx⟩ : ∃ x, L[i] = x := ⟨_, rfl⟩
        have HS5 := Aside0.mk (show (mixb 54 L i).set i (x ^^^ 54) = mixb 54 L (i + 1) from by rw [← hx]; exact mixb_set 54 L i hi)
        have HS9 := Aside0.mk (show (mixb 92 L i).set i (x ^^^ 92) = mixb 92 L (i + 1) from by rw [← hx]; exact mixb_set 92 L i hi)
        have y0 : wr.cell? ⟨p6, i, none⟩ = some (.int .u8 (B x)) := by
          have := mixb_get 54 L i hi
          simp [World.cell?, HI.out, List.getElem?_map, this, hx, bcell]
        have y1 : wr.cell? ⟨p6 + 1, i, none⟩ = some (.int .u8 (B x)) := by
          have := mixb_get 92 L i hi
          simp [World.cell?, HJ.out, List.getElem?_map, this, hx, bcell]
        have f0 : wr.frozen? ⟨p6, i, none⟩ = false := by simp [World.frozen?, HI.out]
        have f1 : wr.frozen? ⟨p6 + 1, i, none⟩ = false := by simp [World.frozen?, HJ.out]
        have n1 : (p6 = p6 + 1) = False := eq_false (by omega)
        have n2 : (p6 + 1 = p6) = False := eq_false (by omega)
        clear hx hi
        go_wp2
        go_roundg k1
        case measure => omega
        case rel =>
          have z := HK2.out
          refine ⟨i + 1, by omega, by go_num, ⟨?_⟩, ⟨?_⟩, ⟨?_⟩, ⟨below_set (below_set HBW.out _ _ (by show w.heap.size ≤ p6; omega)) _ _ (by show w.heap.size ≤ p6 + 1; omega)⟩⟩
          · rw [Below.heap_setCell _ _ _ _ (show p6 ≠ p6 + 1 by omega), ← HS5.out]
            exact bset HI.out i _
          · rw [← HS9.out]
            exact bset ((Below.heap_setCell _ _ _ _ (show p6 + 1 ≠ p6 by omega)).trans HJ.out) i _
          · exact (Below.heap_setCell _ _ _ _ (show w.heap.size ≠ p6 + 1 by omega)).trans ((Below.heap_setCell _ _ _ _ (show w.heap.size ≠ p6 by omega)).trans HX.out)
end Go.Proofs.YtdjhhljijpadoaaDoor.Sha
/- By a program of this session's: a plain Lean function for a Go function, and its contract. -/
namespace Go.Proofs.YtdjhhljijpadoaaDoor.Q
open Go.RowKit Go.Proofs.YtdjhhljijpadoaaDoorW.PrintWords Go.Proofs.YtdjhhljijpadoaaDoorW.PrintLast Go.Proofs.YtdjhhljijpadoaaDoorW.PrintMore
attribute [local go_sem] max2_int min2_int max_two min_two max_three min_three max_four min_four Go.Proofs.YtdjhhljijpadoaaDoor.Ord.str_leq Go.Proofs.YtdjhhljijpadoaaDoor.Ord.str_gtr Go.Proofs.YtdjhhljijpadoaaDoor.Ord.str_geq   -- for this text's walks alone
set_option linter.unusedVariables false
set_option linter.unusedSimpArgs false

/-! ### depotref01_Pad: function 34 -/
mutual
def depotref01_Pad.l0 : Nat → Int → ByteArray → Option (ByteArray)
  | 0, _, _ => none
  | k + 1, x0, x3 => if (Int.tmod (wrap64 ((Int.tmod x0 64) + (x3.size : Int))) 64) = 56 then (depotref01_Pad.l1 k x3 (IntKind.u64.wrap ((IntKind.u64.wrap (x0)) * 8)) 7) else (if x3.size + 1 ≤ 9223372036854775807 then (depotref01_Pad.l0 k x0 (x3 ++ (⟨#[0]⟩ : ByteArray))) else (none))
def depotref01_Pad.l1 : Nat → ByteArray → Int → Int → Option (ByteArray)
  | 0, _, _, _ => none
  | k + 1, x3, x4, x5 => if x5 ≥ 0 then (if 0 ≤ (IntKind.u64.wrap (wrap64 (8 * x5))) then ((some (([(Go.bits .and .u64 (shr .u64 x4 (IntKind.u64.wrap (wrap64 (8 * x5)))) 255) % 256] : List Int) : List Int)).bind fun y148 => (if x3.size + (strOfNums y148).size ≤ 9223372036854775807 then (depotref01_Pad.l1 k (x3 ++ (strOfNums y148)) x4 (wrap64 (x5 - 1))) else (none))) else (none)) else (some x3)
end
def depotref01_Pad.f (k : Nat) (a0 : Int) : Option (ByteArray) := if a0 < 0 then (some (⟨#[]⟩ : ByteArray)) else (depotref01_Pad.l0 k a0 (⟨#[128]⟩ : ByteArray))
theorem depotref01_Pad.mono_l : ∀ k, (∀ y0 y1, LeO (depotref01_Pad.l0 k y0 y1) (depotref01_Pad.l0 (k + 1) y0 y1)) ∧ (∀ y0 y1 y2, LeO (depotref01_Pad.l1 k y0 y1 y2) (depotref01_Pad.l1 (k + 1) y0 y1 y2))
  | 0 => ⟨fun _ _ r h => by simp [depotref01_Pad.l0] at h, fun _ _ _ r h => by simp [depotref01_Pad.l1] at h⟩
  | k + 1 => by
    obtain ⟨ih0, ih1⟩ := depotref01_Pad.mono_l k
    refine ⟨?_, ?_⟩
    · intro y0 y1
      unfold depotref01_Pad.l0
      repeat' first
      | (with_reducible exact ih0 _ _)
      | (with_reducible exact ih1 _ _ _)
      | (with_reducible exact LeO.refl _)
      | (with_reducible exact LeO.none _)
      | (with_reducible refine LeO.ite ?_ ?_)
      | (with_reducible refine LeO.bind ?_ (fun _ => ?_))
      | exact ih0 _ _
      | exact ih1 _ _ _
      | exact LeO.none _
      | refine LeO.ite ?_ ?_
      | refine LeO.bind ?_ (fun _ => ?_)
    · intro y0 y1 y2
      unfold depotref01_Pad.l1
      repeat' first
      | (with_reducible exact ih0 _ _)
      | (with_reducible exact ih1 _ _ _)
      | (with_reducible exact LeO.refl _)
      | (with_reducible exact LeO.none _)
      | (with_reducible refine LeO.ite ?_ ?_)
      | (with_reducible refine LeO.bind ?_ (fun _ => ?_))
      | exact ih0 _ _
      | exact ih1 _ _ _
      | exact LeO.none _
      | refine LeO.ite ?_ ?_
      | refine LeO.bind ?_ (fun _ => ?_)
theorem depotref01_Pad.mono : ∀ a0 k, LeO (depotref01_Pad.f k a0) (depotref01_Pad.f (k + 1) a0) := by
  intro a0 k
  obtain ⟨ih0, ih1⟩ := depotref01_Pad.mono_l k
  unfold depotref01_Pad.f
  repeat' first
      | (with_reducible exact ih0 _ _)
      | (with_reducible exact ih1 _ _ _)
      | (with_reducible exact LeO.refl _)
      | (with_reducible exact LeO.none _)
      | (with_reducible refine LeO.ite ?_ ?_)
      | (with_reducible refine LeO.bind ?_ (fun _ => ?_))
      | exact ih0 _ _
      | exact ih1 _ _ _
      | exact LeO.none _
      | refine LeO.ite ?_ ?_
      | refine LeO.bind ?_ (fun _ => ?_)
set_option maxHeartbeats 8000000 in
set_option maxRecDepth 100000 in
theorem depotref01_Pad.calls (k : Nat) (a0 : Int) (r : ByteArray) (w : World) (h : depotref01_Pad.f k a0 = some r) :
    Calls Tryd.prog 34 #[.int .i64 a0] w fun e w' => e = .returned (.string r) ∧ Below w.heap.size w w' := by
  have HB := Aside0.mk (Below.refl w.heap.size w)
  have H : (if a0 < 0 then (some (⟨#[]⟩ : ByteArray)) else (depotref01_Pad.l0 k a0 (⟨#[128]⟩ : ByteArray))) = some r := h
  clear h
  by_cases c2 : a0 < 0
  · rw [if_pos c2] at H
    have c2b0 : decide (a0 < 0) = true := decide_eq_true c2
    clear c2
    obtain rfl := Option.some.inj H
    go_enter Tryd.func34, Tryd.ntmps34
    go_wp2
    go_ret
    exact ⟨by first | rfl | (simp [errW_none, errW_some] <;> rfl) | (simp [*, errW_none, errW_some] <;> rfl), by repeat (first | (with_reducible first | exact HB.out | apply below_alloc | apply pw_below_drewN | apply below_drew1) | exact HB.out)⟩
  · rw [if_neg c2] at H
    have c2b0 : decide (a0 < 0) = false := decide_eq_false c2
    clear c2
    have H' := Aside0.mk H
    clear H
    go_enter Tryd.func34, Tryd.ntmps34
    go_wp2
    go_loopg [3] k (fun kq v3 w' => ∃ (x3_1 : ByteArray), v3 = .string x3_1 ∧ Aside0 (depotref01_Pad.l0 kq a0 x3_1 = some r) ∧ Aside0 (kq ≤ k) ∧ Aside0 (Below w.heap.size w w'))
    case atStart => exact ⟨((⟨#[128]⟩ : ByteArray)), (by first | rfl | (simp; done) | (simp [*]; done)), H', ⟨Nat.le_refl _⟩, ⟨by repeat (first | (with_reducible first | exact HB.out | apply below_alloc | apply pw_below_drewN | apply below_drew1) | exact HB.out)⟩⟩
    case round =>
      clear H'
      try clear c2
      try clear c2b0
      try clear p2
      obtain ⟨x3_1, rfl, HA, HK1, HB⟩ := hrel
      cases gk with
      | zero => exact absurd HA.out (by simp [depotref01_Pad.l0])
      | succ k1 =>
        have H := HA.out
        clear HA
        simp only [depotref01_Pad.l0] at H
        by_cases c3 : (Int.tmod (wrap64 ((Int.tmod a0 64) + (x3_1.size : Int))) 64) = 56
        · rw [if_pos c3] at H
          have c3b0 : ((Int.tmod (wrap64 ((Int.tmod a0 64) + (x3_1.size : Int))) 64) == 56) = true := beq_iff_eq.mpr c3
          have c3b1 : ((Int.tmod (wrap64 ((Int.tmod a0 64) + (x3_1.size : Int))) 64) != 56) = false := bne_eq_false_iff_eq.mpr c3
          clear c3
          have H' := Aside0.mk H
          clear H
          go_wp2
          go_loopg [3, 5] k1 (fun kq v3 v5 w' => ∃ (x3_2 : ByteArray) (x5_2 : Int), v3 = .string x3_2 ∧ v5 = .int .i64 x5_2 ∧ Aside0 (depotref01_Pad.l1 kq x3_2 (IntKind.u64.wrap ((IntKind.u64.wrap (a0)) * 8)) x5_2 = some r) ∧ Aside0 (kq ≤ k1) ∧ Aside0 (Below w.heap.size w w'))
          case atStart => exact ⟨(x3_1), (7), (by first | rfl | (simp; done) | (simp [*]; done)), (by first | rfl | (simp; done) | (simp [*]; done)), H', ⟨Nat.le_refl _⟩, ⟨by repeat (first | (with_reducible first | exact HB.out | apply below_alloc | apply pw_below_drewN | apply below_drew1) | exact HB.out)⟩⟩
          case round =>
            clear H'
            try clear c2
            try clear c2b0
            try clear p2
            try clear c3
            try clear c3b0
            try clear c3b1
            try clear p2
            obtain ⟨x3_2, x5_2, rfl, rfl, HA, HK2, HB⟩ := hrel
            cases gk with
            | zero => exact absurd HA.out (by simp [depotref01_Pad.l1])
            | succ k2 =>
              have H := HA.out
              clear HA
              simp only [depotref01_Pad.l1] at H
              by_cases c4 : x5_2 ≥ 0
              · rw [if_pos c4] at H
                have c4b0 : decide (0 ≤ x5_2) = true := decide_eq_true c4
                clear c4
                obtain ⟨ji5, hji5⟩ : ∃ j_ : Int, (IntKind.u64.wrap (wrap64 (8 * x5_2))) = j_ := ⟨_, rfl⟩
                replace H : (if 0 ≤ (ji5) then ((some (([(Go.bits .and .u64 (shr .u64 (IntKind.u64.wrap ((IntKind.u64.wrap (a0)) * 8)) (ji5)) 255) % 256] : List Int) : List Int)).bind fun y148 => (if x3_2.size + (strOfNums y148).size ≤ 9223372036854775807 then (depotref01_Pad.l1 k2 (x3_2 ++ (strOfNums y148)) (IntKind.u64.wrap ((IntKind.u64.wrap (a0)) * 8)) (wrap64 (x5_2 - 1))) else (none))) else (none)) = some r := by first | (rw [hji5] at H; exact H) | (simp only [hji5] at H ⊢; exact H)
                by_cases c6 : 0 ≤ (ji5)
                · rw [if_pos c6] at H
                  have c6b0 := eq_true c6
                  have c6b1 : decide (0 ≤ (ji5)) = true := decide_eq_true c6
                  clear c6
                  obtain ⟨ji7, hji7⟩ : ∃ j_ : Int, (shr .u64 (IntKind.u64.wrap ((IntKind.u64.wrap (a0)) * 8)) (ji5)) = j_ := ⟨_, rfl⟩
                  replace H : ((some (([(Go.bits .and .u64 (ji7) 255) % 256] : List Int) : List Int)).bind fun y148 => (if x3_2.size + (strOfNums y148).size ≤ 9223372036854775807 then (depotref01_Pad.l1 k2 (x3_2 ++ (strOfNums y148)) (IntKind.u64.wrap ((IntKind.u64.wrap (a0)) * 8)) (wrap64 (x5_2 - 1))) else (none))) = some r := by first | (rw [hji7] at H; exact H) | (simp only [hji7] at H ⊢; exact H)
                  have hji7_ : ((IntKind.u64.wrap ((IntKind.u64.wrap (a0)) * 8)) / 2 ^ min (ji5).toNat 64) = ji7 := hji7
                  have hji7z : (ji5) ≤ 64 → ((IntKind.u64.wrap ((IntKind.u64.wrap (a0)) * 8)) / 2 ^ (ji5).toNat) = ji7 := shr_small hji7
                  obtain ⟨y148, hy148⟩ : ∃ y_ : List Int, y_ = (([(Go.bits .and .u64 (ji7) 255) % 256] : List Int)) := ⟨_, rfl⟩
                  replace H : (if x3_2.size + (strOfNums y148).size ≤ 9223372036854775807 then (depotref01_Pad.l1 k2 (x3_2 ++ (strOfNums y148)) (IntKind.u64.wrap ((IntKind.u64.wrap (a0)) * 8)) (wrap64 (x5_2 - 1))) else (none)) = some r := by first | (rw [hy148]; with_reducible exact H) | (have H2_ := (Option.bind_some _ _).symm.trans H; rw [hy148]; with_reducible exact H2_) | (have H2_ := (Option.bind_some _ _).symm.trans H; with_reducible exact H2_) | with_reducible exact H | (rw [hy148]; exact H) | exact H
                  have Ny148 := Aside0.mk hy148
                  clear hy148
                  by_cases c8 : x3_2.size + (strOfNums y148).size ≤ 9223372036854775807
                  · rw [if_pos c8] at H
                    have c8b0 := eq_true c8
                    have c8b1 : decide (x3_2.size + (strOfNums y148).size ≤ 9223372036854775807) = true := decide_eq_true c8
                    try have c8b2 : (9223372036854775807 < x3_2.size + (strOfNums y148).size) = False := eq_false (Nat.not_lt.2 c8)
                    have H' := Aside0.mk H
                    clear H
                    go_wp2_with (first | ((with_reducible refine gate_dst (N := 32) rfl ?_); refine Kd.R_lit (Kd.int .u8) _ 5 ?hg (N := 32) ?hd (xs := ([(Go.bits .and .u64 (ji7) 255) % 256] : List Int)) (inner := [.int .u8 ((Go.bits .and .u64 (ji7) 255) % 256)]) (ok := fun _ => True) (okp := fun _ => True) ?hr ?hp (fun _ hk => hk) trivial (Below.refl _ _) (Nat.le_refl _) (by simp) ?_; (case hd => rfl); (case hg => rfl); (case hr => first | (go_simp; done) | (go_simp; rfl)); (case hp => exact (Reps.one (show Kd.M (Kd.int .u8) _ _ _ ((Go.bits .and .u64 (ji7) 255) % 256) [.int .u8 ((Go.bits .and .u64 (ji7) 255) % 256)] from rfl) (Reps.none _ _))); intro v149 w9 ho10 hb hg_ hnew_; clear hg_ hnew_; (first | rw [← Ny148.out] at ho10 | (simp only [Int.reduceToNat] at ho10; rw [← Ny148.out] at ho10)); have n0_ := Aside0.mk (Kd.R_lower ho10 (below_size (by repeat (first | (with_reducible first | exact HB.out | apply below_alloc | apply pw_below_drewN | apply below_drew1) | exact HB.out)))); have n1_ := Aside0.mk (below_step (by repeat (first | (with_reducible first | exact HB.out | apply below_alloc | apply pw_below_drewN | apply below_drew1) | exact HB.out)) hb); clear HB; have HO150 := n0_; have HB := n1_; clear n0_ n1_; clear hb ho10; have hcv11 := own_string (P := Tryd.prog) Tryd.underlying34 Tryd.underlying5 Tryd.underlying9 (Kd.own_of_R HO150.out)))
                    go_roundg k2
                    case measure => have := HK1.out; have := HK2.out; omega
                    case rel => exact ⟨(x3_2 ++ (strOfNums y148)), (wrap64 (x5_2 - 1)), (by first | rfl | (simp; done) | (simp [*]; done)), (by first | rfl | (simp; done) | (simp [*]; done)), H', ⟨by have := HK1.out; have := HK2.out; omega⟩, ⟨by repeat (first | (with_reducible first | exact HB.out | apply below_alloc | apply pw_below_drewN | apply below_drew1) | exact HB.out)⟩⟩
                  · rw [if_neg c8] at H
                    exact absurd H (by simp)
                · rw [if_neg c6] at H
                  exact absurd H (by simp)
              · rw [if_neg c4] at H
                have c4b0 : decide (0 ≤ x5_2) = false := decide_eq_false c4
                clear c4
                obtain rfl := Option.some.inj H
                go_wp2
                go_ret
                exact ⟨by first | rfl | (simp [errW_none, errW_some] <;> rfl) | (simp [*, errW_none, errW_some] <;> rfl), by repeat (first | (with_reducible first | exact HB.out | apply below_alloc | apply pw_below_drewN | apply below_drew1) | exact HB.out)⟩
        · rw [if_neg c3] at H
          have c3b0 : ((Int.tmod (wrap64 ((Int.tmod a0 64) + (x3_1.size : Int))) 64) == 56) = false := beq_eq_false_iff_ne.mpr c3
          have c3b1 : ((Int.tmod (wrap64 ((Int.tmod a0 64) + (x3_1.size : Int))) 64) != 56) = true := bne_iff_ne.mpr c3
          by_cases c12 : x3_1.size + 1 ≤ 9223372036854775807
          · rw [if_pos c12] at H
            have c12b0 := eq_true c12
            have c12b1 : decide (x3_1.size + 1 ≤ 9223372036854775807) = true := decide_eq_true c12
            try have c12b2 : (9223372036854775807 < x3_1.size + 1) = False := eq_false (Nat.not_lt.2 c12)
            have H' := Aside0.mk H
            clear H
            go_wp2
            go_roundg k1
            case measure => have := HK1.out; omega
            case rel => exact ⟨(x3_1 ++ (⟨#[0]⟩ : ByteArray)), (by first | rfl | (simp; done) | (simp [*]; done)), H', ⟨by have := HK1.out; omega⟩, ⟨by repeat (first | (with_reducible first | exact HB.out | apply below_alloc | apply pw_below_drewN | apply below_drew1) | exact HB.out)⟩⟩
          · rw [if_neg c12] at H
            exact absurd H (by simp)

end Go.Proofs.YtdjhhljijpadoaaDoor.Q
/- The document's Pad is pad (plain). -/
namespace Go.Proofs.YtdjhhljijpadoaaDoor.Sha
open Go.RowKit Go.Proofs.YtdjhhljijpadoaaDoorW.PrintWords Go.Proofs.YtdjhhljijpadoaaDoorW.PrintLast Go.Proofs.YtdjhhljijpadoaaDoorW.PrintMore Go.Proofs.YtdjhhljijpadoaaDoor.Bytes Go.Proofs.YtdjhhljijpadoaaDoor.Q Go.Proofs.YtdjhhljijpadoaaDoor.Evs
set_option linter.unusedVariables false
set_option linter.unusedSimpArgs false
theorem nums_one (v : Int) : bs (strOfNums [v]) = [UInt8.ofNat v.toNat] := by
  unfold strOfNums bs
  simp
/-- The bytes of a number, the highest first. -/
def be8 (m : Nat) : Nat → List UInt8
  | 0 => []
  | d + 1 => UInt8.ofNat (nib m d).toNat :: be8 m d
theorem rpad_l1 (m : Nat) (hm : m < 18446744073709551616) (d : Nat) : ∀ (s : ByteArray), d ≤ 8 → (bs s).length + d ≤ 1000 → Ev (fun k => depotref01_Pad.l1 k s (m : Int) ((d : Int) - 1)) ⟨(bs s ++ be8 m d).toArray⟩ := by
  induction d with
  | zero =>
    intro s _ _
    refine succ ?_
    simp only [depotref01_Pad.l1]
    refine neg (by omega) (now (congrArg some ?_))
    apply bs_inj
    rw [be8, List.append_nil]
    exact (bs_mk (bs s)).symm
  | succ d ih =>
    intro s hd hl
    refine succ ?_
    simp only [depotref01_Pad.l1]
    have e0 : ((d + 1 : Nat) : Int) - 1 = (d : Int) := by omega
    have e1 : wrap64 (8 * (d : Int)) = ((8 * d : Nat) : Int) := by rw [w64 (by omega) (by omega)]; omega
    have e2 : IntKind.u64.wrap ((8 * d : Nat) : Int) = ((8 * d : Nat) : Int) := by rw [IntKind.wrap_u64]; omega
    have e3 : shr .u64 (m : Int) ((8 * d : Nat) : Int) = ((m / 2 ^ (8 * d) : Nat) : Int) := by
      unfold shr
      rw [Int.toNat_natCast, Nat.min_eq_left (by show 8 * d ≤ 64; omega), Int.natCast_ediv, Int.natCast_pow]
      rfl
    have hq : m / 2 ^ (8 * d) ≤ m := Nat.div_le_self _ _
    have e4 : Go.bits .and .u64 ((m / 2 ^ (8 * d) : Nat) : Int) 255 % 256 = nib m d := by
      rw [show (255 : Int) = ((255 : Nat) : Int) from rfl, u64_and_nat _ _ (by omega) (by omega)]
      unfold nib
      have := Nat.and_two_pow_sub_one_eq_mod (m / 2 ^ (8 * d)) 8
      rw [show (255 : Nat) = 2 ^ 8 - 1 from rfl, this]
      omega
    rw [e0, e1, e2, e3, e4]
    have hz : (strOfNums [nib m d]).size = 1 := by rw [size_bs, nums_one]; rfl
    refine pos (by omega) (pos (by omega) (call rfl (pos (by rw [hz, size_bs]; omega) ?_)))
    have ew : wrap64 ((d : Int) - 1) = (d : Int) - 1 := w64 (by omega) (by omega)
    rw [ew]
    have h := ih (s ++ strOfNums [nib m d]) (by omega) (by rw [bs_append, List.length_append, nums_one, List.length_singleton]; omega)
    rw [bs_append, nums_one, List.append_assoc] at h
    exact h
theorem rpad_l0 (n z : Nat) (hn : n < 1152921504606846976) (hz : z = (119 - n % 64) % 64) (d : Nat) : ∀ j, j + d = z → Ev (fun k => depotref01_Pad.l0 k (n : Int) ⟨(128 :: List.replicate j 0).toArray⟩) ⟨((128 :: List.replicate z 0) ++ be8 (n * 8) 8).toArray⟩ := by
  have ht : ∀ j, j ≤ 64 → Int.tmod (wrap64 (Int.tmod (n : Int) 64 + (((⟨(128 :: List.replicate j 0).toArray⟩ : ByteArray).size : Nat) : Int))) 64 = (((n % 64 + 1 + j) % 64 : Nat) : Int) := by
    intro j hj
    have t1 : Int.tmod (n : Int) 64 = ((n % 64 : Nat) : Int) := rfl
    have hsz : (⟨(128 :: List.replicate j 0).toArray⟩ : ByteArray).size = j + 1 := by rw [size_bs, bs_mk, List.length_cons, List.length_replicate]
    rw [t1, hsz, w64 (by omega) (by omega), show ((n % 64 : Nat) : Int) + ((j + 1 : Nat) : Int) = ((n % 64 + 1 + j : Nat) : Int) from by omega]
    rfl
  induction d with
  | zero =>
    intro j hj
    obtain rfl : j = z := by omega
    refine succ ?_
    simp only [depotref01_Pad.l0]
    rw [ht j (by omega)]
    refine pos (by omega) ?_
    have e1 : IntKind.u64.wrap (n : Int) = (n : Int) := by rw [IntKind.wrap_u64]; omega
    have e2 : IntKind.u64.wrap ((n : Int) * 8) = ((n * 8 : Nat) : Int) := by rw [IntKind.wrap_u64]; omega
    rw [e1, e2]
    have h := rpad_l1 (n * 8) (by omega) 8 ⟨(128 :: List.replicate j 0).toArray⟩ (by omega) (by rw [bs_mk, List.length_cons, List.length_replicate]; omega)
    rw [bs_mk] at h
    exact h
  | succ d ih =>
    intro j hj
    refine succ ?_
    simp only [depotref01_Pad.l0]
    rw [ht j (by omega)]
    refine neg (by omega) (pos (by rw [size_bs, bs_mk, List.length_cons, List.length_replicate]; omega) ?_)
    have e : (⟨(128 :: List.replicate j 0).toArray⟩ : ByteArray) ++ (⟨#[0]⟩ : ByteArray) = ⟨(128 :: List.replicate (j + 1) 0).toArray⟩ := by
      apply bs_inj
      rw [bs_append, bs_mk, bs_mk, List.replicate_succ', List.cons_append]
      rfl
    rw [e]
    exact ih (j + 1) (by omega)
theorem rpad (n : Nat) (hn : n < 1152921504606846976) : Ev (fun k => depotref01_Pad.f k (n : Int)) ⟨(pad n).toArray⟩ := by
  unfold depotref01_Pad.f
  refine neg (by omega) ?_
  have h := rpad_l0 n _ hn rfl ((119 - n % 64) % 64) 0 (by omega)
  have e : (128 :: List.replicate ((119 - n % 64) % 64) 0) ++ be8 (n * 8) 8 = pad n := by
    unfold pad be8 be8 be8 be8 be8 be8 be8 be8 be8
    rw [nib_byte (n * 8) 7 72057594037927936 rfl, nib_byte (n * 8) 6 281474976710656 rfl, nib_byte (n * 8) 5 1099511627776 rfl, nib_byte (n * 8) 4 4294967296 rfl, nib_byte (n * 8) 3 16777216 rfl, nib_byte (n * 8) 2 65536 rfl, nib_byte (n * 8) 1 256 rfl, nib_byte (n * 8) 0 1 rfl, Nat.div_one]
    rfl
  rw [e] at h
  exact h
end Go.Proofs.YtdjhhljijpadoaaDoor.Sha
/- The document's SHA-256: Of. -/
namespace Go.Proofs.YtdjhhljijpadoaaDoor.Sha
open Go.RowKit Go.Proofs.YtdjhhljijpadoaaDoor.Q Go.Proofs.YtdjhhljijpadoaaDoorW.PrintWords Go.Proofs.YtdjhhljijpadoaaDoorW.PrintLast Go.Proofs.YtdjhhljijpadoaaDoorW.PrintMore Go.Proofs.YtdjhhljijpadoaaDoor.Bytes
set_option linter.unusedVariables false
set_option linter.unusedSimpArgs false
/-- The block at work: i bytes of a list, then noughts. -/
def part (l : List UInt8) (i : Nat) : List UInt8 := l.take i ++ List.replicate (64 - i) 0
theorem part_len (l : List UInt8) (i : Nat) (hi : i ≤ 64) (hl : i ≤ l.length) : (part l i).length = 64 := by
  rw [part, List.length_append, List.length_take, List.length_replicate]
  omega
theorem part_set (l : List UInt8) (i : Nat) (hi : i < 64) (hl : i < l.length) : (part l i).set i (l[i]) = part l (i + 1) := by
  unfold part
  have ht : (l.take i).length = i := by rw [List.length_take]; omega
  obtain ⟨m, hm⟩ : ∃ m, 64 - i = m + 1 := ⟨63 - i, by omega⟩
  rw [List.set_append_right _ _ (by omega), ht, Nat.sub_self, hm, show 64 - (i + 1) = m from by omega, List.replicate_succ, List.set_cons_zero, List.take_succ_eq_append_getElem hl, List.append_assoc]
  rfl
theorem part_zero (l : List UInt8) : part l 0 = List.replicate 64 0 := by simp [part]
theorem part_all (l : List UInt8) : part l 64 = l.take 64 := by simp [part]
/-- The digest at work. -/
def dpart (l : List UInt8) (i : Nat) : List UInt8 := l.take i ++ List.replicate (32 - i) 0
theorem dpart_len (l : List UInt8) (i : Nat) (hi : i ≤ 32) (hl : i ≤ l.length) : (dpart l i).length = 32 := by
  rw [dpart, List.length_append, List.length_take, List.length_replicate]
  omega
theorem dpart_set (l : List UInt8) (i : Nat) (hi : i < 32) (hl : i < l.length) : (dpart l i).set i (l[i]) = dpart l (i + 1) := by
  unfold dpart
  have ht : (l.take i).length = i := by rw [List.length_take]; omega
  obtain ⟨m, hm⟩ : ∃ m, 32 - i = m + 1 := ⟨31 - i, by omega⟩
  rw [List.set_append_right _ _ (by omega), ht, Nat.sub_self, hm, show 32 - (i + 1) = m from by omega, List.replicate_succ, List.set_cons_zero, List.take_succ_eq_append_getElem hl, List.append_assoc]
  rfl
theorem dpart_next (l : List UInt8) (i : Nat) (hi : i < 32) (z : UInt8) (hz : l[i]? = some z) : (dpart l i).set i z = dpart l (i + 1) := by
  obtain ⟨hl, e⟩ := List.getElem?_eq_some_iff.1 hz
  rw [← e]
  exact dpart_set l i hi hl
theorem digest_at (v : V8) (c : Nat) (hc : c < 8) : (digest v)[4 * c]? = some (UInt8.ofNat ((v.words.getD c 0).toNat >>> 24)) ∧ (digest v)[4 * c + 1]? = some (UInt8.ofNat ((v.words.getD c 0).toNat >>> 16)) ∧ (digest v)[4 * c + 2]? = some (UInt8.ofNat ((v.words.getD c 0).toNat >>> 8)) ∧ (digest v)[4 * c + 3]? = some (UInt8.ofNat (v.words.getD c 0).toNat) := by
  match c, hc with
  | 0, _ => exact ⟨rfl, rfl, rfl, rfl⟩
  | 1, _ => exact ⟨rfl, rfl, rfl, rfl⟩
  | 2, _ => exact ⟨rfl, rfl, rfl, rfl⟩
  | 3, _ => exact ⟨rfl, rfl, rfl, rfl⟩
  | 4, _ => exact ⟨rfl, rfl, rfl, rfl⟩
  | 5, _ => exact ⟨rfl, rfl, rfl, rfl⟩
  | 6, _ => exact ⟨rfl, rfl, rfl, rfl⟩
  | 7, _ => exact ⟨rfl, rfl, rfl, rfl⟩
theorem dpart_zero (l : List UInt8) : dpart l 0 = List.replicate 32 0 := by simp [dpart]
theorem blocks_step (h : V8) (l : List UInt8) (q : Nat) (hq : 64 * q + 64 ≤ l.length) : block (blocks h (l.take (64 * q))) ((l.drop (64 * q)).take 64) = blocks h (l.take (64 * (q + 1))) := by
  rw [show 64 * (q + 1) = 64 * q + 64 from by omega, List.take_add, blocks_end h _ _ (by rw [List.length_take]; omega) (by rw [List.length_take, List.length_drop]; omega)]
attribute [local go_sem] U_shr8 U_shr16 U_shr24 U_byte U_byte' u32_signed u32_max
set_option maxRecDepth 100000 in
set_option maxHeartbeats 4000000 in
theorem rof_calls (t : ByteArray) (w : World) (hn : t.size < 1152921504606846976) : Calls Tryd.prog 25 #[.string t] w fun e w' => e = .returned (.agg ((of t.data.toList).map bcell).toArray) ∧ Below w.heap.size w w' := by
  have HR23 : Aside0 ((Tryd.prog.info? 28).map (·.size) = some 32) := ⟨by kernel_rfl⟩
  obtain ⟨O, hO⟩ : ∃ O, of t.data.toList = O := ⟨_, rfl⟩
  obtain ⟨k, hk⟩ := rpad t.size (by omega)
  have CP := Aside0.mk (fun W => depotref01_Pad.calls k (t.size : Int) _ W (hk k (Nat.le_refl _)))
  obtain ⟨pd, hpd⟩ : ∃ pd : ByteArray, (⟨(pad t.size).toArray⟩ : ByteArray) = pd := ⟨_, rfl⟩
  have hps : pd.size = (pad t.size).length := by rw [← hpd, size_bs, bs_mk]
  have hpl := pad_len t.size
  have hpw := pad_whole t.size
  rw [hpd] at CP
  have s1 : (t.size + pd.size ≤ 9223372036854775807) = True := eq_true (by omega)
  have s2 : ((t.size : Int) + (pd.size : Int) ≤ 9223372036854775807) = True := eq_true (by omega)
  have s3 : (9223372036854775807 < t.size + pd.size) = False := eq_false (by omega)
  obtain ⟨L, hL⟩ : ∃ L, bs (t ++ pd) = L := ⟨_, rfl⟩
  have hLl : L.length = t.size + pd.size := by rw [← hL, bs_append, List.length_append, ← size_bs, ← size_bs]
  have HO : Aside0 (digest (blocks H0 L) = O) := ⟨by
    rw [← hO, ← hL, bs_append, ← hpd, bs_mk]
    unfold of
    rw [show t.data.toList.length = t.size from (Lib.size_eq t).symm]
    rfl⟩
  obtain ⟨Q, hQ⟩ : ∃ Q, L.length = 64 * Q := ⟨L.length / 64, by omega⟩
  have hQB : 64 * Q < 1200000000000000000 := by omega
  have HOL := Aside0.mk (show O.length = 32 from by rw [← hO]; exact of_len _)
  rw [hO]
  have HB1 := Aside0.mk ((Below.refl w.heap.size w).alloc (Nat.le_refl _) (.cells (List.replicate 32 (Value.int .u8 0)).toArray 28))
  have HX1 := Aside0.mk (World.alloc_heap_new w (.cells (List.replicate 32 (Value.int .u8 0)).toArray 28))
  have HL := Aside0.mk hL
  clear hO hk hpd hL hps hpl hpw
  go_enter Tryd.func25, Tryd.ntmps25
  go_wp2_with (first
    | (go_at_call 34; ((with_reducible refine (CP.out _).mono ?_)); rintro e w2 ⟨rfl, hb2⟩; have HB2 := Aside0.mk (HB1.out.trans (hb2.mono HB1.out.size)); have HX2 := Aside0.mk ((hb2.block _ (Array.getElem?_eq_some_iff.1 HX1.out).1).trans HX1.out); clear hb2)
    | (go_at_call 35; ((with_reducible refine (start_calls w2).mono ?_)); rintro e w3 ⟨rfl, hb3⟩; have HB3 := Aside0.mk (HB2.out.trans (hb3.mono HB2.out.size)); have HX3 := Aside0.mk ((hb3.block _ (Array.getElem?_eq_some_iff.1 HX2.out).1).trans HX2.out); clear hb3)
    | ((with_reducible refine gate_store (t := 69) (p := 4) rfl ?_); refine wpList_store_row' rfl 69 (.tmp 4) (.tmp 15) rfl w3.heap.size 69 (V8.cells ⟨0, 0, 0, 0, 0, 0, 0, 0⟩) H0.cells rfl rfl (World.alloc_heap_new w3 _) (by kernel_rfl) (by kernel_rfl) (by kernel_rfl) ?_; intro w4 hw4; have HB4 : Aside0 (Below w3.heap.size w3 w4 ∧ w4.heap[w3.heap.size]? = some (.cells H0.cells 69 (0, 0))) := ⟨by rw [hw4]; exact ⟨below_setRow ((Below.refl _ _).alloc (Nat.le_refl _) _) (Nat.le_refl _) _, setRow_heap _ _ _ _ _ _ (World.alloc_heap_new w3 _)⟩⟩; clear hw4))
  have HP4 : Aside0 (w.heap.size < w3.heap.size) := ⟨(Array.getElem?_eq_some_iff.1 HX3.out).1⟩
  have HX4 : Aside0 (w4.heap[w.heap.size]? = some (.cells (List.replicate 32 (Value.int .u8 0)).toArray 28 (0, 0))) := ⟨(HB4.out.1.block _ HP4.out).trans HX3.out⟩
  have HV4 := Aside0.mk (show w4.heap[w3.heap.size]? = some (.cells (blocks H0 (L.take (64 * 0))).cells 69 (0, 0)) from by rw [Nat.mul_zero, List.take_zero, blocks_few H0 [] (by decide)]; exact HB4.out.2)
  have HBB4 := Aside0.mk (HB3.out.trans (HB4.out.1.mono HB3.out.size))
  clear HB1 HB2 HB3 HB4 HX1 HX2 HX3
  generalize w3.heap.size = p4 at HP4 HV4 ⊢
  obtain ⟨m, hm⟩ : ∃ m, t ++ pd = m := ⟨_, rfl⟩
  rw [hm]
  have HLM : Aside0 (bs m = L) := ⟨by rw [← hm]; exact HL.out⟩
  have hmz : m.size = 64 * Q := by rw [size_bs, HLM.out]; exact hQ
  clear hm s1 s2 s3 HL hLl
  go_loopg [5] Q (fun g v5 wx => ∃ q : Nat, q + g = Q ∧ v5 = .int .i64 ((64 * q : Nat) : Int) ∧ Aside0 (wx.heap[p4]? = some (.cells (blocks H0 (L.take (64 * q))).cells 69 (0, 0))) ∧ Aside0 (Below w.heap.size w wx) ∧ Aside0 (wx.heap[w.heap.size]? = some (.cells (List.replicate 32 (Value.int .u8 0)).toArray 28 (0, 0))))
  case atStart => exact ⟨0, by omega, rfl, HV4, HBB4, HX4⟩
  case round =>
    clear HV4 HBB4 HX4
    obtain ⟨q, hqg, rfl, HV, HBW, HX⟩ := hrel
    cases gk with
    | zero =>
      obtain rfl : q = Q := by omega
      rw [List.take_of_length_le (by omega)] at HV
      have d1 : decide (((64 * q : Nat) : Int) < (m.size : Int)) = false := decide_eq_false (by omega)
      obtain ⟨v, hv⟩ : ∃ v, blocks H0 L = v := ⟨_, rfl⟩
      rw [hv] at HV HO
      clear hv
      have HA1 := Aside0.mk (World.alloc_heap_new wr (.cells ((dpart O 0).map bcell).toArray 28))
      have HA2 := Aside0.mk (HBW.out.alloc HBW.out.size (.cells ((dpart O 0).map bcell).toArray 28))
      have HP6 : Aside0 (p4 < wr.heap.size) := ⟨(Array.getElem?_eq_some_iff.1 HV.out).1⟩
      have HA3 := Aside0.mk ((((Below.refl _ wr).alloc (Nat.le_refl _) (.cells ((dpart O 0).map bcell).toArray 28)).block p4 HP6.out).trans HV.out)
      have HA4 := Aside0.mk ((((Below.refl _ wr).alloc (Nat.le_refl _) (.cells ((dpart O 0).map bcell).toArray 28)).block w.heap.size (Nat.lt_trans HP4.out HP6.out)).trans HX.out)
      have e0 : (List.replicate 32 (Value.int .u8 0)).toArray = ((dpart O 0).map bcell).toArray := by rw [dpart_zero]; rfl
      clear HV HBW HX
      go_upto_block 4 with fail
      change Code.wp _ _ _ _ (wr.alloc (.cells (List.replicate 32 (Value.int .u8 0)).toArray 28))
      rw [e0]
      clear e0
      generalize wr.alloc (.cells ((dpart O 0).map bcell).toArray 28) = w5 at HA1 HA2 HA3 HA4 ⊢
      generalize wr.heap.size = p6 at HA1 HP6 ⊢
      go_wp2
      go_loopg [9] 32 (fun g v9 wx => ∃ i : Nat, i + g = 32 ∧ v9 = .int .i64 (i : Int) ∧ Aside0 (wx.heap[p6]? = some (.cells ((dpart O i).map bcell).toArray 28 (0, 0))) ∧ Aside0 (wx.heap[p4]? = some (.cells v.cells 69 (0, 0))) ∧ Aside0 (Below w.heap.size w wx) ∧ Aside0 (wx.heap[w.heap.size]? = some (.cells (List.replicate 32 (Value.int .u8 0)).toArray 28 (0, 0))))
      case atStart => exact ⟨0, by omega, rfl, HA1, HA3, HA2, HA4⟩
      case round =>
        clear HA1 HA2 HA3 HA4
        obtain ⟨i, hig, rfl, HP, HV, HBW, HX⟩ := hrel
        cases gk with
        | zero =>
          obtain rfl : i = 32 := by omega
          have d2 : decide ((32 : Int) < 32) = false := by decide
          have eO : dpart O 32 = O := by rw [dpart, Nat.sub_self, List.take_of_length_le (by rw [HOL.out]; omega)]; simp
          rw [eO] at HP
          go_wp2_with (first
            | ((with_reducible refine gate_dst (N := 53) rfl ?_); refine wpList_load_mid rfl 28 (.tmp 8) rfl p6 0 rfl (O.map bcell) _ (range_row HP.out) Tryd.underlying28 rfl (by rw [List.length_map, HOL.out]; exact HR23.out) ?_)
            | ((with_reducible refine gate_store (t := 28) (p := 2) rfl ?_); refine wpList_store_row' rfl 28 (.tmp 2) (.tmp 53) rfl w.heap.size 28 _ (O.map bcell).toArray rfl rfl HX.out (by rw [List.size_toArray, List.length_map, HOL.out]; exact HR23.out) (by rw [List.size_toArray, List.size_toArray, List.length_map, HOL.out]; rfl) (all_oneCell_toArray fun u hu => by obtain ⟨y, _, rfl⟩ := List.mem_map.1 hu; rfl) ?_; intro w9 hw9; have HX9 : Aside0 (w9.heap[w.heap.size]? = some (.cells (O.map bcell).toArray 28 (0, 0))) := ⟨by rw [hw9]; exact setRow_heap _ _ _ _ _ _ HX.out⟩; have HB9 : Aside0 (Below w.heap.size w w9) := ⟨by rw [hw9]; exact below_setRow HBW.out (Nat.le_refl _) _⟩; clear hw9))
          exact bodyPost_ret (v := .agg (O.map bcell).toArray) (results_cell_row rfl _ _ w.heap.size 28 (O.map bcell).toArray (0, 0) _ rfl HX9.out Tryd.underlying28 rfl (by rw [List.size_toArray, List.length_map, HOL.out]; exact HR23.out)) rfl ⟨rfl, HB9.out⟩
        | succ k2 =>
          have hi : i < 32 := by omega
          have d2 : decide ((i : Int) < 32) = true := decide_eq_true (by omega)
          have p9 : (0 ≤ (i : Int)) = True := eq_true (by omega)
          have q9 : ((i : Int) < 32) = True := eq_true (by omega)
          obtain ⟨c, hc⟩ : ∃ c, i / 4 = c := ⟨_, rfl⟩
          have hc8 : c < 8 := by omega
          have g1 := word_at (i := c) (l := v.words) (show wr.heap[p4]? = some (.cells (warr v.words) 69 (0, 0)) from HV.out) hc8
          obtain ⟨x, hx⟩ : ∃ x, v.words.getD c 0 = x := ⟨_, rfl⟩
          rw [hx] at g1
          have y0 : wr.cell? ⟨p6, i, none⟩ = some (.int .u8 (B ((dpart O i).getD i 0))) := by
            have hl := dpart_len O i (by omega) (by rw [HOL.out]; omega)
            simp [World.cell?, HP.out, List.getElem?_map, List.getElem?_eq_getElem (show i < (dpart O i).length by omega), List.getD_eq_getElem?_getD, bcell]
          have fz : wr.frozen? ⟨p6, i, none⟩ = false := by simp [World.frozen?, HP.out]
          have HIO : Aside0 (O.length = 32 ∧ digest v = O) := ⟨HOL.out, HO.out⟩
          have pc : (0 ≤ (c : Int)) = True := eq_true (by omega)
          have qc : ((c : Int) < 8) = True := eq_true (by omega)
          have et1 : Int.tdiv (i : Int) 4 = (c : Int) := by rw [← hc]; rfl
          have hr : i % 4 = 0 ∨ i % 4 = 1 ∨ i % 4 = 2 ∨ i % 4 = 3 := by omega
          have HC := Aside0.mk hc
          have HXX := Aside0.mk hx
          clear hc hx
          rcases hr with hr | hr | hr | hr
          · have et2 : Int.tmod (i : Int) 4 = 0 := by show ((i % 4 : Nat) : Int) = 0; omega
            go_wp2
            go_roundg k2
            case measure => omega
            case rel =>
              have n1 : p4 ≠ p6 := by have := HP6.out; omega
              have n2 : w.heap.size ≠ p6 := by have := HP6.out; have := HP4.out; omega
              refine ⟨i + 1, by omega, by go_num, ⟨?_⟩, ⟨(Below.heap_setCell _ _ _ _ n1).trans HV.out⟩, ⟨below_set HBW.out _ _ (by have := HP6.out; have := HP4.out; show w.heap.size ≤ p6; omega)⟩, ⟨(Below.heap_setCell _ _ _ _ n2).trans HX.out⟩⟩
              rw [← dpart_next O i hi _ (by rw [← HIO.out.2, show i = 4 * c from by have := HC.out; omega]; exact (digest_at v c hc8).1)]
              rw [HXX.out]
              exact bset HP.out i _
          · have et2 : Int.tmod (i : Int) 4 = 1 := by show ((i % 4 : Nat) : Int) = 1; omega
            go_wp2
            go_roundg k2
            case measure => omega
            case rel =>
              have n1 : p4 ≠ p6 := by have := HP6.out; omega
              have n2 : w.heap.size ≠ p6 := by have := HP6.out; have := HP4.out; omega
              refine ⟨i + 1, by omega, by go_num, ⟨?_⟩, ⟨(Below.heap_setCell _ _ _ _ n1).trans HV.out⟩, ⟨below_set HBW.out _ _ (by have := HP6.out; have := HP4.out; show w.heap.size ≤ p6; omega)⟩, ⟨(Below.heap_setCell _ _ _ _ n2).trans HX.out⟩⟩
              rw [← dpart_next O i hi _ (by rw [← HIO.out.2, show i = 4 * c + 1 from by have := HC.out; omega]; exact (digest_at v c hc8).2.1)]
              rw [HXX.out]
              exact bset HP.out i _
          · have et2 : Int.tmod (i : Int) 4 = 2 := by show ((i % 4 : Nat) : Int) = 2; omega
            go_wp2
            go_roundg k2
            case measure => omega
            case rel =>
              have n1 : p4 ≠ p6 := by have := HP6.out; omega
              have n2 : w.heap.size ≠ p6 := by have := HP6.out; have := HP4.out; omega
              refine ⟨i + 1, by omega, by go_num, ⟨?_⟩, ⟨(Below.heap_setCell _ _ _ _ n1).trans HV.out⟩, ⟨below_set HBW.out _ _ (by have := HP6.out; have := HP4.out; show w.heap.size ≤ p6; omega)⟩, ⟨(Below.heap_setCell _ _ _ _ n2).trans HX.out⟩⟩
              rw [← dpart_next O i hi _ (by rw [← HIO.out.2, show i = 4 * c + 2 from by have := HC.out; omega]; exact (digest_at v c hc8).2.2.1)]
              rw [HXX.out]
              exact bset HP.out i _
          · have et2 : Int.tmod (i : Int) 4 = 3 := by show ((i % 4 : Nat) : Int) = 3; omega
            go_wp2
            go_roundg k2
            case measure => omega
            case rel =>
              have n1 : p4 ≠ p6 := by have := HP6.out; omega
              have n2 : w.heap.size ≠ p6 := by have := HP6.out; have := HP4.out; omega
              refine ⟨i + 1, by omega, by go_num, ⟨?_⟩, ⟨(Below.heap_setCell _ _ _ _ n1).trans HV.out⟩, ⟨below_set HBW.out _ _ (by have := HP6.out; have := HP4.out; show w.heap.size ≤ p6; omega)⟩, ⟨(Below.heap_setCell _ _ _ _ n2).trans HX.out⟩⟩
              rw [← dpart_next O i hi _ (by rw [← HIO.out.2, show i = 4 * c + 3 from by have := HC.out; omega]; exact (digest_at v c hc8).2.2.2)]
              rw [HXX.out]
              exact bset HP.out i _
    | succ k1 =>
      have d1 : decide (((64 * q : Nat) : Int) < (m.size : Int)) = true := decide_eq_true (by omega)
      obtain ⟨D, hD⟩ : ∃ D, L.drop (64 * q) = D := ⟨_, rfl⟩
      have hDl : 64 ≤ D.length := by rw [← hD, List.length_drop]; omega
      obtain ⟨h, hh⟩ : ∃ h, blocks H0 (L.take (64 * q)) = h := ⟨_, rfl⟩
      have HN := Aside0.mk (show block h (part D 64) = blocks H0 (L.take (64 * (q + 1))) from by rw [part_all, ← hh, ← hD]; exact blocks_step H0 L q (by omega))
      rw [hh] at HV
      have HA1 := Aside0.mk (World.alloc_heap_new wr (.cells ((part D 0).map bcell).toArray 49))
      have HA2 := Aside0.mk (HBW.out.alloc HBW.out.size (.cells ((part D 0).map bcell).toArray 49))
      have HP6 : Aside0 (p4 < wr.heap.size) := ⟨(Array.getElem?_eq_some_iff.1 HV.out).1⟩
      have HA3 := Aside0.mk ((((Below.refl _ wr).alloc (Nat.le_refl _) (.cells ((part D 0).map bcell).toArray 49)).block p4 HP6.out).trans HV.out)
      have HA4 := Aside0.mk ((((Below.refl _ wr).alloc (Nat.le_refl _) (.cells ((part D 0).map bcell).toArray 49)).block w.heap.size (Nat.lt_trans HP4.out HP6.out)).trans HX.out)
      have e0 : (List.replicate 64 (Value.int .u8 0)).toArray = ((part D 0).map bcell).toArray := by rw [part_zero]; rfl
      have HEL := Aside0.mk (show ∀ j, j < 64 → L[64 * q + j]? = D[j]? from fun j hj => by rw [← hD, List.getElem?_drop])
      clear hD hh HV HBW HX
      go_upto_block 2 with fail
      change Code.wp _ _ _ _ (wr.alloc (.cells (List.replicate 64 (Value.int .u8 0)).toArray 49))
      rw [e0]
      clear e0
      generalize wr.alloc (.cells ((part D 0).map bcell).toArray 49) = w5 at HA1 HA2 HA3 HA4 ⊢
      generalize wr.heap.size = p6 at HA1 HP6 ⊢
      go_wp2
      go_loopg [7] 64 (fun g v7 wx => ∃ j : Nat, j + g = 64 ∧ v7 = .int .i64 (j : Int) ∧ Aside0 (wx.heap[p6]? = some (.cells ((part D j).map bcell).toArray 49 (0, 0))) ∧ Aside0 (wx.heap[p4]? = some (.cells h.cells 69 (0, 0))) ∧ Aside0 (Below w.heap.size w wx) ∧ Aside0 (wx.heap[w.heap.size]? = some (.cells (List.replicate 32 (Value.int .u8 0)).toArray 28 (0, 0))))
      case atStart => exact ⟨0, by omega, rfl, HA1, HA3, HA2, HA4⟩
      case round =>
        clear HA1 HA2 HA3 HA4
        obtain ⟨j, hjg, rfl, HP, HV, HBW, HX⟩ := hrel
        cases gk with
        | zero =>
          obtain rfl : j = 64 := by omega
          have HPL := Aside0.mk (part_len D 64 (Nat.le_refl _) hDl)
          obtain ⟨pb, hpb⟩ : ∃ pb, part D 64 = pb := ⟨_, rfl⟩
          rw [hpb] at HP HN HPL
          clear hpb
          have d2 : decide ((64 : Int) < 64) = false := by decide
          obtain ⟨y, hy⟩ : ∃ y, block h pb = y := ⟨_, rfl⟩
          have CB := Aside0.mk (rblock_calls h pb HPL.out wr)
          rw [hy] at CB HN
          clear hy
          go_wp2_with (first
            | ((with_reducible refine gate_dst (N := 33) rfl ?_); refine wpList_load_mid rfl 69 (.tmp 4) rfl p4 0 rfl (h.words.map wcell) _ (range_row HV.out) Tryd.underlying69 rfl (by kernel_rfl) ?_)
            | ((with_reducible refine gate_dst (N := 34) rfl ?_); refine wpList_load_mid rfl 49 (.tmp 6) rfl p6 0 rfl (pb.map bcell) _ (range_row HP.out) Tryd.underlying49 rfl (by rw [List.length_map, HPL.out]; kernel_rfl) ?_)
            | (go_at_call 36; refine Calls.mono (show Calls Tryd.prog 36 #[.agg (h.words.map wcell).toArray, .agg (pb.map bcell).toArray] wr _ from CB.out) ?_; rintro e w6 ⟨rfl, hb6⟩; have HB6 := Aside0.mk (HBW.out.trans (hb6.mono HBW.out.size)); have HX6 := Aside0.mk ((hb6.block _ (Array.getElem?_eq_some_iff.1 HX.out).1).trans HX.out); have HV6 := Aside0.mk ((hb6.block _ (Array.getElem?_eq_some_iff.1 HV.out).1).trans HV.out); clear hb6)
            | ((with_reducible refine gate_store (t := 69) (p := 4) rfl ?_); refine wpList_store_row' rfl 69 (.tmp 4) (.tmp 35) rfl p4 69 h.cells y.cells rfl rfl HV6.out (by kernel_rfl) (by kernel_rfl) (by kernel_rfl) ?_; intro w7 hw7; have HV7 : Aside0 (w7.heap[p4]? = some (.cells y.cells 69 (0, 0))) := ⟨by rw [hw7]; exact setRow_heap _ _ _ _ _ _ HV6.out⟩; have HB7 : Aside0 (Below w.heap.size w w7) := ⟨by rw [hw7]; exact below_setRow HB6.out (Nat.le_of_lt HP4.out) _⟩; have HX7 : Aside0 (w7.heap[w.heap.size]? = some (.cells (List.replicate 32 (Value.int .u8 0)).toArray 28 (0, 0))) := ⟨by rw [hw7]; exact (setRow_other _ _ _ _ (Nat.ne_of_lt HP4.out)).trans HX6.out⟩; clear hw7))
          go_roundg k1
          case measure => omega
          case rel =>
            refine ⟨q + 1, by omega, by first | rfl | go_num | (congr 1; omega), ⟨?_⟩, HB7, HX7⟩
            rw [← HN.out]
            exact HV7.out
        | succ k2 =>
          have hj : j < 64 := by omega
          have d2 : decide ((j : Int) < 64) = true := decide_eq_true (by omega)
          have p9 : (0 ≤ (j : Int)) = True := eq_true (by omega)
          have q9 : ((j : Int) < 64) = True := eq_true (by omega)
          have ew : wrap64 (64 * (q : Int) + (j : Int)) = 64 * (q : Int) + (j : Int) := w64 (by omega) (by omega)
          have et : (64 * (q : Int) + (j : Int)).toNat = 64 * q + j := by omega
          have p8 : (0 ≤ 64 * (q : Int) + (j : Int)) = True := eq_true (by omega)
          have q8 : (64 * (q : Int) + (j : Int) < 64 * (Q : Int)) = True := eq_true (by omega)
          have q7 : (64 * q + j < 64 * Q) = True := eq_true (by omega)
          obtain ⟨x, hx⟩ : ∃ x, D[j]? = some x := ⟨_, List.getElem?_eq_getElem (by omega)⟩
          have HMX := Aside0.mk (show ∀ hb : 64 * q + j < m.size, m[64 * q + j]'hb = x from fun hb => by
            have h1 := HEL.out j hj
            rw [hx, ← HLM.out] at h1
            have h2 : (bs m)[64 * q + j]? = some (m[64 * q + j]'hb) := by
              unfold bs
              rw [Array.getElem?_toList, Array.getElem?_eq_getElem hb]
              rfl
            rw [h1] at h2
            injection h2 with h2
            exact h2.symm)
          have HNP := Aside0.mk (show (part D j).set j x = part D (j + 1) from by
            have hjl : j < D.length := by omega
            rw [List.getElem?_eq_getElem hjl] at hx
            injection hx with hx
            rw [← hx]
            exact part_set D j hj hjl)
          have y0 : wr.cell? ⟨p6, j, none⟩ = some (.int .u8 (B ((part D j).getD j 0))) := by
            have hl := part_len D j (by omega) (by omega)
            simp [World.cell?, HP.out, List.getElem?_map, List.getElem?_eq_getElem (show j < (part D j).length by omega), List.getD_eq_getElem?_getD, bcell]
          have fz : wr.frozen? ⟨p6, j, none⟩ = false := by simp [World.frozen?, HP.out]
          clear hx
          go_wp2
          go_roundg k2
          case measure => omega
          case rel =>
            have n1 : p4 ≠ p6 := by have := HP6.out; omega
            have n2 : w.heap.size ≠ p6 := by have := HP6.out; have := HP4.out; omega
            refine ⟨j + 1, by omega, by go_num, ⟨?_⟩, ⟨(Below.heap_setCell _ _ _ _ n1).trans HV.out⟩, ⟨below_set HBW.out _ _ (by have := HP6.out; have := HP4.out; show w.heap.size ≤ p6; omega)⟩, ⟨(Below.heap_setCell _ _ _ _ n2).trans HX.out⟩⟩
            rw [← HNP.out, ← HMX.out (by omega)]
            exact bset HP.out j _
end Go.Proofs.YtdjhhljijpadoaaDoor.Sha
/- The document's Mac, walked. -/
namespace Go.Proofs.YtdjhhljijpadoaaDoor.Sha
open Go.Proofs.YtdjhhljijpadoaaDoor.OrdersBut Go.RowKit Go.Proofs.YtdjhhljijpadoaaDoor.Q Go.Proofs.YtdjhhljijpadoaaDoorW.PrintWords Go.Proofs.YtdjhhljijpadoaaDoorW.PrintLast Go.Proofs.YtdjhhljijpadoaaDoorW.PrintMore Go.Proofs.YtdjhhljijpadoaaDoor.Bytes
set_option linter.unusedVariables false
set_option linter.unusedSimpArgs false
/-- The first i bytes, turned, then noughts. -/
def zipb (c : UInt8) (l : List UInt8) (i : Nat) : List UInt8 := (l.take i).map (· ^^^ c) ++ List.replicate (64 - i) 0
theorem zipb_len (c : UInt8) (l : List UInt8) (i : Nat) (hi : i ≤ 64) (hl : l.length = 64) : (zipb c l i).length = 64 := by
  rw [zipb, List.length_append, List.length_map, List.length_take, List.length_replicate]; omega
theorem zipb_zero (c : UInt8) (l : List UInt8) : (zipb c l 0).map bcell = List.replicate 64 (Value.int .u8 0) := rfl
theorem zipb_all (c : UInt8) (l : List UInt8) (hl : l.length = 64) : zipb c l 64 = l.map (· ^^^ c) := by
  rw [zipb, List.take_of_length_le (by omega)]
  simp
theorem zipb_set (c : UInt8) (l : List UInt8) (i : Nat) (h : i < l.length) (hl : l.length = 64) : (zipb c l i).set i (l[i] ^^^ c) = zipb c l (i + 1) := by
  unfold zipb
  have ht : ((l.take i).map (· ^^^ c)).length = i := by rw [List.length_map, List.length_take]; omega
  obtain ⟨m, hm⟩ : ∃ m, 64 - i = m + 1 := ⟨63 - i, by omega⟩
  rw [List.set_append_right _ _ (by omega), ht, Nat.sub_self, hm, show 64 - (i + 1) = m from by omega, List.replicate_succ, List.set_cons_zero, List.take_succ_eq_append_getElem h, List.map_append, List.append_assoc]
  rfl
/-- make([]byte, 64). -/
theorem make64 (W : World) : (Instr.makeSlice 34 (.int .i64 64) (.int .i64 64)).run Tryd.prog W = .ok (.slice (some ⟨W.heap.size, 0, none⟩) 64 64) (W.alloc (.cells (List.replicate 64 (Value.int .u8 0)).toArray 5)) := by kernel_rfl
attribute [local go_sem] B_xor54 B_xor92
set_option maxRecDepth 100000 in
set_option maxHeartbeats 8000000 in
theorem rmac_calls (key text : ByteArray) (w : World) (hk : key.size < 1152921504606846976) (ht : text.size < 1152921504606846000) : Calls Tryd.prog 10 #[.string key, .string text] w fun e w' => e = .returned (.agg ((mac (bs key) (bs text)).map bcell).toArray) ∧ Below w.heap.size w w' := by
  have HR28 : Aside0 ((Tryd.prog.info? 28).map (·.size) = some 32) := ⟨by kernel_rfl⟩
  obtain ⟨W1, hW1⟩ : ∃ W1, w.alloc (.cells (List.replicate 32 (Value.int .u8 0)).toArray 28) = W1 := ⟨_, rfl⟩
  have HB1 : Aside0 (Below w.heap.size w W1) := ⟨by rw [← hW1]; exact (Below.refl w.heap.size w).alloc (Nat.le_refl _) _⟩
  have HX1 : Aside0 (W1.heap[w.heap.size]? = some (.cells (List.replicate 32 (Value.int .u8 0)).toArray 28 (0, 0))) := ⟨by rw [← hW1]; exact World.alloc_heap_new w _⟩
  have CO := Aside0.mk (fun W => rof_calls key W hk)
  obtain ⟨O, hO⟩ : ∃ O, of key.data.toList = O := ⟨_, rfl⟩
  have HOL := Aside0.mk (show O.length = 32 from by rw [← hO]; exact of_len _)
  have HO := Aside0.mk (show of (bs key) = O from hO)
  rw [hO] at CO
  clear hO
  go_enter Tryd.func10, Tryd.ntmps10
  go_upto_region 1 with fail
  change Code.wp _ _ _ _ (w.alloc (.cells (List.replicate 32 (Value.int .u8 0)).toArray 28))
  rw [hW1]
  clear hW1
  go_upto_if 12 with fail
  go_cut [0] (fun s0 wx => ∃ kk : ByteArray, s0 = .string kk ∧ bs kk = keyOf (bs key) ∧ Aside0 (Below w.heap.size w wx) ∧ Aside0 (wx.heap[w.heap.size]? = some (.cells (List.replicate 32 (Value.int .u8 0)).toArray 28 (0, 0))))
  case first =>
    by_cases h64 : 64 < key.size
    · have d1 : decide (64 < (key.size : Int)) = true := decide_eq_true (by omega)
      have hko : keyOf (bs key) = O := by unfold keyOf; rw [if_pos (by rw [← size_bs]; exact h64)]; exact HO.out
      go_wp2_with (first
        | (go_at_call 25; ((with_reducible refine (CO.out _).mono ?_)); rintro e w10 ⟨rfl, hb10⟩; have HB10 := Aside0.mk (HB1.out.trans (hb10.mono HB1.out.size)); have HX10 := Aside0.mk ((hb10.block _ (Array.getElem?_eq_some_iff.1 HX1.out).1).trans HX1.out); clear hb10)
        | ((with_reducible refine gate_store (t := 28) (p := 5) rfl ?_); refine wpList_store_row' rfl 28 (.tmp 5) (.tmp 14) rfl w10.heap.size 28 (List.replicate 32 (Value.int .u8 0)).toArray (O.map bcell).toArray rfl rfl (World.alloc_heap_new w10 _) (by rw [List.size_toArray, List.length_map, HOL.out]; exact HR28.out) (by rw [List.size_toArray, List.size_toArray, List.length_map, HOL.out]; rfl) (all_oneCell_toArray fun u hu => by obtain ⟨y, _, rfl⟩ := List.mem_map.1 hu; rfl) ?_; intro w11 hw11; have hcv11 := conv32 w11 w10.heap.size O 28 HOL.out (by rw [hw11]; exact setRow_heap _ _ _ _ _ _ (World.alloc_heap_new w10 _)); have HB11 : Aside0 (Below w.heap.size w w11) := ⟨by rw [hw11]; exact below_setRow (HB10.out.alloc HB10.out.size _) HB10.out.size _⟩; have HX11 : Aside0 (w11.heap[w.heap.size]? = some (.cells (List.replicate 32 (Value.int .u8 0)).toArray 28 (0, 0))) := ⟨by rw [hw11]; exact (setRow_other _ _ _ _ (Nat.ne_of_lt (Array.getElem?_eq_some_iff.1 HX10.out).1)).trans ((((Below.refl w10.heap.size w10).alloc (Nat.le_refl _) _).block _ (Array.getElem?_eq_some_iff.1 HX10.out).1).trans HX10.out)⟩; clear hw11))
      go_meet
      exact ⟨_, rfl, by rw [bs_mk, hko], HB11, HX11⟩
    · have d1 : decide (64 < (key.size : Int)) = false := decide_eq_false (by omega)
      have hko : keyOf (bs key) = bs key := by unfold keyOf; rw [if_neg (by rw [← size_bs]; exact h64)]
      go_wp2
      go_meet
      exact ⟨_, rfl, hko.symm, HB1, HX1⟩
  case rest =>
    obtain ⟨kk, rfl, hkk, HBX, HXX⟩ := hcut
    have hkl : kk.size ≤ 64 := by rw [size_bs, hkk]; exact keyOf_len _
    obtain ⟨L, hL⟩ : ∃ L, pad64 (bs kk) = L := ⟨_, rfl⟩
    have HLL := Aside0.mk (show L.length = 64 from by rw [← hL]; exact pad64_len _ (by rw [← size_bs]; exact hkl))
    have HLK := Aside0.mk (show pad64 (keyOf (bs key)) = L from by rw [← hkk]; exact hL)
    have HLS := Aside0.mk hL
    clear hL
    go_wp2
    go_loopg [0] (64 - kk.size) (fun g v0 wx => ∃ (j : Nat) (ks : ByteArray), j + g = 64 - kk.size ∧ v0 = .string ks ∧ Aside0 (bs ks = bs kk ++ List.replicate j 0) ∧ wx = wc)
    case atStart => exact ⟨0, kk, by omega, rfl, ⟨by simp⟩, rfl⟩
    case round =>
      obtain ⟨j, ks, hjg, rfl, HKS, rfl⟩ := hrel
      have hks : ks.size = kk.size + j := by rw [size_bs, HKS.out, List.length_append, List.length_replicate, ← size_bs]
      cases gk with
      | zero =>
        have d1 : decide ((ks.size : Int) < 64) = false := decide_eq_false (by omega)
        have d2 : decide (ks.size < 64) = false := decide_eq_false (by omega)
        have HKL := Aside0.mk (show bs ks = L from by
          rw [HKS.out, ← HLS.out]
          unfold pad64
          rw [show j = 64 - (bs kk).length from by rw [← size_bs]; omega])
        have hk64 : ks.size = 64 := by omega
        clear HKS hks
        have a1 : ∀ (W : World) (o : Obj), (W.alloc o).heap.size = W.heap.size + 1 := fun W o => Array.size_push _
        obtain ⟨W2, hW2⟩ : ∃ W2, (wr.alloc (.cells (List.replicate 64 (Value.int .u8 0)).toArray 5)).alloc (.cells (List.replicate 64 (Value.int .u8 0)).toArray 5) = W2 := ⟨_, rfl⟩
        have HB2 : Aside0 (Below wr.heap.size wr W2) := ⟨by rw [← hW2]; exact ((Below.refl wr.heap.size wr).alloc (Nat.le_refl _) _).alloc (by rw [a1]; omega) _⟩
        have HI2 : Aside0 (W2.heap[wr.heap.size]? = some (.cells (List.replicate 64 (Value.int .u8 0)).toArray 5 (0, 0))) := ⟨by
          rw [← hW2, ((Below.refl (wr.alloc (.cells (List.replicate 64 (Value.int .u8 0)).toArray 5)).heap.size _).alloc (Nat.le_refl _) _).block _ (by rw [a1]; omega)]
          exact World.alloc_heap_new wr _⟩
        have HJ2 : Aside0 (W2.heap[wr.heap.size + 1]? = some (.cells (List.replicate 64 (Value.int .u8 0)).toArray 5 (0, 0))) := ⟨by
          rw [← hW2]
          have := World.alloc_heap_new (wr.alloc (.cells (List.replicate 64 (Value.int .u8 0)).toArray 5)) (.cells (List.replicate 64 (Value.int .u8 0)).toArray 5)
          rw [a1] at this
          exact this⟩
        have HK2 : Aside0 (w.heap.size < wr.heap.size) := ⟨(Array.getElem?_eq_some_iff.1 HXX.out).1⟩
        clear a1
        have hmk := make64
        go_upto_region 8 with fail
        change Code.wp _ _ _ _ ((wr.alloc (.cells (List.replicate 64 (Value.int .u8 0)).toArray 5)).alloc (.cells (List.replicate 64 (Value.int .u8 0)).toArray 5))
        rw [hW2]
        clear hW2 hmk
        have HX2 : Aside0 (W2.heap[w.heap.size]? = some (.cells (List.replicate 32 (Value.int .u8 0)).toArray 28 (0, 0))) := ⟨(HB2.out.block _ HK2.out).trans HXX.out⟩
        have HBB2 : Aside0 (Below w.heap.size w W2) := ⟨HBX.out.trans (HB2.out.mono HBX.out.size)⟩
        generalize wr.heap.size = p6 at HI2 HJ2 HK2 ⊢
        clear HB2 HBX HXX
        have HLZ := Aside0.mk hk64
        go_wp2
        go_loopg [8] 64 (fun g v8 wx => ∃ i : Nat, i + g = 64 ∧ v8 = .int .i64 (i : Int) ∧ Aside0 (wx.heap[p6]? = some (.cells ((zipb 54 L i).map bcell).toArray 5 (0, 0))) ∧ Aside0 (wx.heap[p6 + 1]? = some (.cells ((zipb 92 L i).map bcell).toArray 5 (0, 0))) ∧ Aside0 (wx.heap[w.heap.size]? = some (.cells (List.replicate 32 (Value.int .u8 0)).toArray 28 (0, 0))) ∧ Aside0 (Below w.heap.size w wx))
        case atStart => exact ⟨0, by omega, rfl, ⟨by rw [zipb_zero]; exact HI2.out⟩, ⟨by rw [zipb_zero]; exact HJ2.out⟩, HX2, HBB2⟩
        case round =>
          clear HI2 HJ2 HX2 HBB2
          obtain ⟨i, hig, rfl, HI, HJ, HX, HBW⟩ := hrel
          cases gk with
          | zero =>
            obtain rfl : i = 64 := by omega
            have d3 : decide ((64 : Int) < 64) = false := by decide
            obtain ⟨ik, hik⟩ : ∃ ik, zipb 54 L 64 = ik := ⟨_, rfl⟩
            obtain ⟨ok, hok⟩ : ∃ ok, zipb 92 L 64 = ok := ⟨_, rfl⟩
            have HIK := Aside0.mk (show L.map (· ^^^ 54) = ik ∧ L.map (· ^^^ 92) = ok ∧ ik.length = 64 ∧ ok.length = 64 from ⟨by rw [← hik, ← zipb_all _ _ HLL.out], by rw [← hok, ← zipb_all _ _ HLL.out], by rw [← hik]; exact zipb_len _ _ _ (by omega) HLL.out, by rw [← hok]; exact zipb_len _ _ _ (by omega) HLL.out⟩)
            rw [hik] at HI
            rw [hok] at HJ
            clear hik hok
            obtain ⟨F, hF⟩ : ∃ F, of (ik ++ bs text) = F := ⟨_, rfl⟩
            have HFL := Aside0.mk (show F.length = 32 from by rw [← hF]; exact of_len _)
            obtain ⟨R, hR⟩ : ∃ R, of (ok ++ F) = R := ⟨_, rfl⟩
            have HRL := Aside0.mk (show R.length = 32 from by rw [← hR]; exact of_len _)
            have HMAC := Aside0.mk (show mac (bs key) (bs text) = R from by
              unfold mac
              rw [HLK.out, HIK.out.1, HIK.out.2.1, hF, hR])
            have hcv1 := convB wr p6 ik _ 64 64 HIK.out.2.2.1 HI.out
            have hisz : (⟨ik.toArray⟩ : ByteArray).size = 64 := by rw [size_bs, bs_mk]; exact HIK.out.2.2.1
            obtain ⟨iks, hiks⟩ : ∃ iks : ByteArray, (⟨ik.toArray⟩ : ByteArray) = iks := ⟨_, rfl⟩
            have HIKS := Aside0.mk (show bs iks = ik from by rw [← hiks, bs_mk])
            rw [hiks] at hcv1 hisz
            have CO1 := Aside0.mk (fun W => show Calls Tryd.prog 25 #[.string (iks ++ text)] W fun e w' => e = .returned (.agg (F.map bcell).toArray) ∧ Below W.heap.size W w' from by
              have := rof_calls (iks ++ text) W (by rw [size_bs, bs_append, List.length_append, ← size_bs, ← size_bs]; omega)
              rw [show (iks ++ text).data.toList = ik ++ bs text from by
                have := bs_append iks text
                rw [HIKS.out] at this
                exact this, hF] at this
              exact this)
            have CO2 := Aside0.mk (fun W => show Calls Tryd.prog 25 #[.string ((⟨ok.toArray⟩ : ByteArray) ++ ⟨F.toArray⟩)] W fun e w' => e = .returned (.agg (R.map bcell).toArray) ∧ Below W.heap.size W w' from by
              have := rof_calls ((⟨ok.toArray⟩ : ByteArray) ++ ⟨F.toArray⟩) W (by rw [size_bs, bs_append, List.length_append, bs_mk, bs_mk, HIK.out.2.2.2, HFL.out]; decide)
              rw [show ((⟨ok.toArray⟩ : ByteArray) ++ ⟨F.toArray⟩).data.toList = ok ++ F from by
                have := bs_append (⟨ok.toArray⟩ : ByteArray) ⟨F.toArray⟩
                rw [bs_mk, bs_mk] at this
                exact this, hR] at this
              exact this)
            have t1 : (64 + text.size ≤ 9223372036854775807) = True := eq_true (by omega)
            have t2 : (9223372036854775807 < 64 + text.size) = False := eq_false (by omega)
            have t3 : (iks.size + text.size ≤ 9223372036854775807) = True := eq_true (by omega)
            have t4 : (9223372036854775807 < iks.size + text.size) = False := eq_false (by omega)
            clear hF hR hiks
            go_wp2_with (first
              | (go_at_call 25; ((with_reducible refine (CO1.out _).mono ?_)); rintro e w10 ⟨rfl, hb10⟩; have HB10 := Aside0.mk (HBW.out.trans (hb10.mono HBW.out.size)); have HX10 := Aside0.mk ((hb10.block _ (Array.getElem?_eq_some_iff.1 HX.out).1).trans HX.out); have HJ10 := Aside0.mk ((hb10.block _ (Array.getElem?_eq_some_iff.1 HJ.out).1).trans HJ.out); have HS10 := Aside0.mk hb10.size; clear hb10 hcv1)
              | ((with_reducible refine gate_store (t := 28) (p := 9) rfl ?_); refine wpList_store_row' rfl 28 (.tmp 9) (.tmp 46) rfl w10.heap.size 28 (List.replicate 32 (Value.int .u8 0)).toArray (F.map bcell).toArray rfl rfl (World.alloc_heap_new w10 _) (by rw [List.size_toArray, List.length_map, HFL.out]; exact HR28.out) (by rw [List.size_toArray, List.size_toArray, List.length_map, HFL.out]; rfl) (all_oneCell_toArray fun u hu => by obtain ⟨y, _, rfl⟩ := List.mem_map.1 hu; rfl) ?_; intro w11 hw11; have HB11 : Aside0 (Below w10.heap.size w10 w11 ∧ w11.heap[w10.heap.size]? = some (.cells (F.map bcell).toArray 28 (0, 0))) := ⟨by rw [hw11]; exact ⟨below_setRow ((Below.refl _ _).alloc (Nat.le_refl _) _) (Nat.le_refl _) _, setRow_heap _ _ _ _ _ _ (World.alloc_heap_new w10 _)⟩⟩; clear hw11))
            have HB12 := Aside0.mk (HB10.out.trans (HB11.out.1.mono HB10.out.size))
            have HX12 := Aside0.mk ((HB11.out.1.block _ (Array.getElem?_eq_some_iff.1 HX10.out).1).trans HX10.out)
            have HJ12 := Aside0.mk ((HB11.out.1.block _ (Array.getElem?_eq_some_iff.1 HJ10.out).1).trans HJ10.out)
            have HF12 := Aside0.mk HB11.out.2
            have HLT : Aside0 (p6 + 1 < w10.heap.size) := ⟨(Array.getElem?_eq_some_iff.1 HJ10.out).1⟩
            generalize w10.heap.size = p9 at HF12 HLT ⊢
            clear HB10 HB11 HX10 HJ10 HS10
            have t5 : ((⟨ok.toArray⟩ : ByteArray).size + (⟨F.toArray⟩ : ByteArray).size ≤ 9223372036854775807) = True := eq_true (by rw [size_bs, size_bs, bs_mk, bs_mk, HIK.out.2.2.2, HFL.out]; decide)
            have t6 : (9223372036854775807 < (⟨ok.toArray⟩ : ByteArray).size + (⟨F.toArray⟩ : ByteArray).size) = False := eq_false (by rw [size_bs, size_bs, bs_mk, bs_mk, HIK.out.2.2.2, HFL.out]; decide)
            have HBD := Aside0.mk (below_drew HB12.out)
            obtain ⟨oks, hoks⟩ : ∃ oks : ByteArray, (⟨ok.toArray⟩ : ByteArray) = oks := ⟨_, rfl⟩
            obtain ⟨Fs, hFs⟩ : ∃ Fs : ByteArray, (⟨F.toArray⟩ : ByteArray) = Fs := ⟨_, rfl⟩
            have HCV := Aside0.mk (show ∀ W : World, W.heap[p6 + 1]? = some (.cells (ok.map bcell).toArray 5 (0, 0)) → (convert 34 9 (.slice (some ⟨p6 + 1, 0, none⟩) 64 64)).run Tryd.prog W = .ok (.string oks) W from fun W h => by rw [← hoks]; exact convB W (p6 + 1) ok _ 64 64 HIK.out.2.2.2 h)
            have HCF := Aside0.mk (show ∀ W : World, W.heap[p9]? = some (.cells (F.map bcell).toArray 28 (0, 0)) → (convert 34 9 (.slice (some ⟨p9, 0, none⟩) 32 32)).run Tryd.prog W = .ok (.string Fs) W from fun W h => by rw [← hFs]; exact conv32 W p9 F _ HFL.out h)
            rw [hoks, hFs] at CO2
            rw [hoks, hFs] at t5 t6
            clear hoks hFs
            have HELD := Aside0.mk (show w11.drew.heap[p6 + 1]? = some (.cells (ok.map bcell).toArray 5 (0, 0)) ∧ w11.drew.heap[p9]? = some (.cells (F.map bcell).toArray 28 (0, 0)) from ⟨HJ12.out, HF12.out⟩)
            have HXD : Aside0 (w11.drew.heap[w.heap.size]? = some (.cells (List.replicate 32 (Value.int .u8 0)).toArray 28 (0, 0))) := ⟨HX12.out⟩
            refine wp_region_but 6 (fun W => W.heap[p6 + 1]? = some (.cells (ok.map bcell).toArray 5 (0, 0)) ∧ W.heap[p9]? = some (.cells (F.map bcell).toArray 28 (0, 0))) (by kernel_rfl) ?_
            generalize w11.drew = wd at HBD HELD HXD ⊢
            clear HB12 HX12 HJ12 HF12
            refine wpAnyB_take (i := 0) rfl (by kernel_rfl) (by kernel_rfl) (by kernel_rfl) (by decide) (fun _ _ _ h => h) (Or.inl ⟨by kernel_rfl, fun w _ => by go_simp <;> with_reducible rfl⟩) (fun _ => HELD.out) ?_
            try simp only [Act.put, List.setIfInBounds_toArray, List.set_cons_zero, List.set_cons_succ]
            refine wpAnyB_load (i := 1) rfl (by kernel_rfl) (by kernel_rfl) (by kernel_rfl) (by decide) (by kernel_rfl) (by kernel_rfl) (fun _ _ _ h => h) (Or.inl ⟨by kernel_rfl, fun w hS => by have hcv := HCV.out w hS.1; go_simp <;> with_reducible rfl⟩) HELD.out ?_
            try simp only [Act.put, List.setIfInBounds_toArray, List.set_cons_zero, List.set_cons_succ]
            refine wpAnyB_take (i := 2) rfl (by kernel_rfl) (by kernel_rfl) (by kernel_rfl) (by decide) (fun _ _ _ h => h) (Or.inl ⟨by kernel_rfl, fun w _ => by go_simp <;> with_reducible rfl⟩) (fun _ => HELD.out) ?_
            try simp only [Act.put, List.setIfInBounds_toArray, List.set_cons_zero, List.set_cons_succ]
            refine wpAnyB_load (i := 3) rfl (by kernel_rfl) (by kernel_rfl) (by kernel_rfl) (by decide) (by kernel_rfl) (by kernel_rfl) (fun _ _ _ h => h) (Or.inl ⟨by kernel_rfl, fun w hS => by have hcv := HCF.out w hS.2; go_simp <;> with_reducible rfl⟩) HELD.out ?_
            try simp only [Act.put, List.setIfInBounds_toArray, List.set_cons_zero, List.set_cons_succ]
            refine wpAnyB_take (i := 4) rfl (by kernel_rfl) (by kernel_rfl) (by kernel_rfl) (by decide) (fun _ _ _ h => h) (Or.inl ⟨by kernel_rfl, fun w _ => by go_simp <;> with_reducible rfl⟩) (fun _ => HELD.out) ?_
            try simp only [Act.put, List.setIfInBounds_toArray, List.set_cons_zero, List.set_cons_succ]
            refine wpAnyB_one (i := 5) rfl (by kernel_rfl) (fun K9 hK => ?_)
            rw [if_pos (by kernel_rfl)]
            go_simp
            with_reducible refine (CO2.out _).mono ?_
            rintro e w12 ⟨rfl, hb12⟩
            have HB13 := Aside0.mk (HBD.out.trans (hb12.mono HBD.out.size))
            have HX13 := Aside0.mk ((hb12.block _ (Array.getElem?_eq_some_iff.1 HXD.out).1).trans HXD.out)
            have HELD2 := Aside0.mk (show w12.heap[p6 + 1]? = some (.cells (ok.map bcell).toArray 5 (0, 0)) ∧ w12.heap[p9]? = some (.cells (F.map bcell).toArray 28 (0, 0)) from ⟨(hb12.block _ (Array.getElem?_eq_some_iff.1 HELD.out.1).1).trans HELD.out.1, (hb12.block _ (Array.getElem?_eq_some_iff.1 HELD.out.2).1).trans HELD.out.2⟩)
            refine hK _ _ (fun _ => HELD2.out) ?_
            clear hK K9 HELD hb12
            try simp only [Act.put, List.setIfInBounds_toArray, List.set_cons_zero, List.set_cons_succ]
            refine wpAnyB_one (i := 6) rfl (by kernel_rfl) (fun K9 hK => ?_)
            rw [if_pos (by kernel_rfl)]
            refine wp_store_mid 28 (.tmp 4) (.tmp 52) rfl w.heap.size 0 (R.map bcell).toArray rfl rfl (fun j hj => ⟨(range_row HX13.out).isSome j (by rw [List.length_replicate]; rw [List.size_toArray, List.length_map, HRL.out] at hj; exact hj), by simp [World.frozen?, HX13.out]⟩) (by rw [List.size_toArray, List.length_map, HRL.out]; exact HR28.out) (all_oneCell_toArray fun u hu => by obtain ⟨y, _, rfl⟩ := List.mem_map.1 hu; rfl) ?_
            refine hK _ _ (fun h => Bool.noConfusion (h.symm.trans (show _ = true by kernel_rfl))) ?_
            have e := setCells_rowT w12 w.heap.size (R.map bcell) 28 0 (List.replicate 32 (Value.int .u8 0)) HX13.out (by rw [List.length_map, HRL.out, List.length_replicate]; decide)
            rw [List.take_zero, List.nil_append, List.drop_of_length_le (by rw [List.length_map, HRL.out, List.length_replicate]; decide), List.append_nil] at e
            have HX14 : Aside0 ((w12.setCells w.heap.size 0 (R.map bcell).toArray.toList).heap[w.heap.size]? = some (.cells (R.map bcell).toArray 28 (0, 0))) := ⟨by show (w12.setCells w.heap.size 0 (R.map bcell)).heap[w.heap.size]? = _; rw [e]; exact setRow_heap _ _ _ _ _ _ HX13.out⟩
            have HB14 : Aside0 (Below w.heap.size w (w12.setCells w.heap.size 0 (R.map bcell).toArray.toList)) := ⟨by show Below w.heap.size w (w12.setCells w.heap.size 0 (R.map bcell)); rw [e]; exact below_setRow HB13.out (Nat.le_refl _) _⟩
            clear e
            generalize w12.setCells w.heap.size 0 (R.map bcell).toArray.toList = w13 at HX14 HB14 ⊢
            refine wpAnyB_done (by kernel_rfl) ?_ _
            clear hK K9 HELD2 HX13 HB13
            try simp only [Act.put, List.setIfInBounds_toArray, List.set_cons_zero, List.set_cons_succ]
            go_wp2
            rw [HMAC.out]
            exact bodyPost_ret (v := .agg (R.map bcell).toArray) (results_cell_row rfl _ _ w.heap.size 28 (R.map bcell).toArray (0, 0) _ rfl HX14.out Tryd.underlying28 rfl (by rw [List.size_toArray, List.length_map, HRL.out]; exact HR28.out)) rfl ⟨rfl, HB14.out⟩
          | succ k1 =>
            have hi : i < L.length := by rw [HLL.out]; omega
            have d3 : decide ((i : Int) < 64) = true := decide_eq_true (by omega)
            have p9 : (0 ≤ (i : Int)) = True := eq_true (by omega)
            have q9 : ((i : Int) < 64) = True := eq_true (by omega)
            have q8 : (i < 64) = True := eq_true (by omega)
            obtain ⟨x, hx⟩ : ∃ x, L[i] = x := ⟨_, rfl⟩
            have HMX := Aside0.mk (show ∀ hb : i < ks.size, ks[i]'hb = x from fun hb => by
              have h1 : L[i]? = some x := by rw [List.getElem?_eq_getElem hi, hx]
              rw [← HKL.out] at h1
              have h2 : (bs ks)[i]? = some (ks[i]'hb) := by
                unfold bs
                rw [Array.getElem?_toList, Array.getElem?_eq_getElem hb]
                rfl
              rw [h1] at h2
              injection h2 with h2
              exact h2.symm)
            have HS5 := Aside0.mk (show (zipb 54 L i).set i (x ^^^ 54) = zipb 54 L (i + 1) from by rw [← hx]; exact zipb_set 54 L i hi HLL.out)
            have HS9 := Aside0.mk (show (zipb 92 L i).set i (x ^^^ 92) = zipb 92 L (i + 1) from by rw [← hx]; exact zipb_set 92 L i hi HLL.out)
            have y0 : ∃ u, wr.cell? ⟨p6, i, none⟩ = some u := by
              simp only [World.cell?, HI.out, List.getElem?_toArray]
              exact ⟨_, List.getElem?_eq_getElem (by rw [List.length_map, zipb_len _ _ _ (by omega) HLL.out]; omega)⟩
            have y1 : ∃ u, wr.cell? ⟨p6 + 1, i, none⟩ = some u := by
              simp only [World.cell?, HJ.out, List.getElem?_toArray]
              exact ⟨_, List.getElem?_eq_getElem (by rw [List.length_map, zipb_len _ _ _ (by omega) HLL.out]; omega)⟩
            obtain ⟨u0_, y0⟩ := y0
            obtain ⟨u1_, y1⟩ := y1
            have f0 : wr.frozen? ⟨p6, i, none⟩ = false := by simp [World.frozen?, HI.out]
            have f1 : wr.frozen? ⟨p6 + 1, i, none⟩ = false := by simp [World.frozen?, HJ.out]
            have n1 : (p6 = p6 + 1) = False := eq_false (by omega)
            have n2 : (p6 + 1 = p6) = False := eq_false (by omega)
            clear hx hi
            have hB54 : ∀ hb : i < ks.size, bits .xor .u8 ((ks[i]'hb).toNat : Int) 54 = B (x ^^^ 54) := fun hb => by rw [HMX.out hb]; exact B_xor54 x
            have hB92 : ∀ hb : i < ks.size, bits .xor .u8 ((ks[i]'hb).toNat : Int) 92 = B (x ^^^ 92) := fun hb => by rw [HMX.out hb]; exact B_xor92 x
            go_wp2
            go_roundg k1
            case measure => omega
            case rel =>
              have z := HK2.out
              refine ⟨i + 1, by omega, by go_num, ⟨?_⟩, ⟨?_⟩, ⟨?_⟩, ⟨below_set (below_set HBW.out _ _ (by show w.heap.size ≤ p6; omega)) _ _ (by show w.heap.size ≤ p6 + 1; omega)⟩⟩
              · rw [Below.heap_setCell _ _ _ _ (show p6 ≠ p6 + 1 by omega), ← HS5.out]
                exact bset HI.out i _
              · rw [← HS9.out]
                exact bset ((Below.heap_setCell _ _ _ _ (show p6 + 1 ≠ p6 by omega)).trans HJ.out) i _
              · exact (Below.heap_setCell _ _ _ _ (show w.heap.size ≠ p6 + 1 by omega)).trans ((Below.heap_setCell _ _ _ _ (show w.heap.size ≠ p6 by omega)).trans HX.out)
      | succ k1 =>
        have d1 : decide ((ks.size : Int) < 64) = true := decide_eq_true (by omega)
        have d2 : decide (ks.size < 64) = true := decide_eq_true (by omega)
        have t1 : (ks.size + 1 ≤ 9223372036854775807) = True := eq_true (by omega)
        have t2 : (9223372036854775807 < ks.size + 1) = False := eq_false (by omega)
        have HK2 := Aside0.mk (show bs (ks ++ (⟨#[0]⟩ : ByteArray)) = bs kk ++ List.replicate (j + 1) 0 from by
          rw [bs_append, HKS.out, List.append_assoc, List.replicate_succ']
          rfl)
        clear hks
        go_wp2
        go_roundg k1
        case measure => omega
        case rel => exact ⟨j + 1, _, by omega, rfl, HK2, rfl⟩
end Go.Proofs.YtdjhhljijpadoaaDoor.Sha
/- strings.IndexByte by the library's own contract. -/
namespace Go.Proofs.YtdjhhljijpadoaaDoor.Q
open Go.RowKit Go.Proofs.YtdjhhljijpadoaaDoorW.PrintWords Go.Proofs.YtdjhhljijpadoaaDoorW.PrintLast Go.Proofs.YtdjhhljijpadoaaDoorW.PrintMore Go.Proofs.YtdjhhljijpadoaaDoor.Bytes
set_option linter.unusedVariables false
set_option linter.unusedSimpArgs false

def strings_IndexByte.f (a0 : ByteArray) (a1 : Int) : Option (Int) := some (Lib.indexByte a0.data.toList a1.toNat.toUInt8)
theorem strings_IndexByte.calls (a0 : ByteArray) (a1 : Int) (r : Int) (w : World) (h : strings_IndexByte.f a0 a1 = some r) :
    Calls Tryd.prog 66 #[.string a0, .int .u8 a1] w fun e w' => e = .returned (.int .i64 r) ∧ Drawn0 w w' := by
  unfold strings_IndexByte.f at h
  obtain rfl := Option.some.inj h
  refine (Tryd.strings_IndexByte a0 a1 w).mono ?_
  rintro e w' ⟨rfl, rfl⟩
  exact ⟨rfl, Drawn0.refl _⟩
end Go.Proofs.YtdjhhljijpadoaaDoor.Q
