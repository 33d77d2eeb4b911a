/- depotlaw05.NameRises answers true for every list: Compare is the order of the bytes, Sorted tells its first break. No condition. -/
import Derived.Test.YtabgpdpdgkgmbaaPdNameRises
import Derived.Test.YtabgpdpdgkgmbaaOrd
set_option linter.unusedVariables false
set_option linter.unusedSimpArgs false
namespace Go.Proofs.Ytabgpdpdgkgmbaa.Pure
open Go.RowKit Go.Proofs.Ytabgpdpdgkgmbaa.Q Go.Proofs.YtabgpdpdgkgmbaaW.PrintWords Go.Proofs.YtabgpdpdgkgmbaaW.PrintLast Go.Proofs.Ytabgpdpdgkgmbaa.Bytes Go.Proofs.Ytabgpdpdgkgmbaa.Ord

namespace Rises
/-- Does element j stand above the one ahead of it? -/
def up (xs : List ByteArray) (j : Nat) : Bool := Op.bytesLess (xs.getD (j - 1) ByteArray.empty).toList (xs.getD j ByteArray.empty).toList
/-- The first break from i on. -/
def First (xs : List ByteArray) (i : Nat) (r : Int) : Prop :=
  (r = -1 ∧ ∀ j, i ≤ j → j < xs.length → up xs j = true) ∨ ∃ j : Nat, r = j ∧ i ≤ j ∧ j < xs.length ∧ up xs j = false ∧ ∀ m, i ≤ m → m < j → up xs m = true
theorem rd_nat (xs : List ByteArray) (i : Nat) : rdOf ByteArray.empty xs (i : Int) = xs.getD i ByteArray.empty := by simp [rdOf]
theorem wl (i : Nat) (h1 : 1 ≤ i) (h : i ≤ 9223372036854775807) : wrap64 ((i : Int) - 1) = ((i - 1 : Nat) : Int) := by rw [w64 (by omega) (by omega)]; omega
theorem wr (i : Nat) (h : i < 9223372036854775807) : wrap64 ((i : Int) + 1) = ((i + 1 : Nat) : Int) := by rw [w64 (by omega) (by omega)]; omega

theorem sorted_l0 (xs : List ByteArray) (hx : xs.length ≤ 9223372036854775807) (d : Nat) : ∀ (i k : Nat), xs.length - i = d → 1 ≤ i → d < k →
    ∃ r, name_Sorted.l0 k xs (i : Int) = some r ∧ First xs i r := by
  induction d with
  | zero =>
    intro i k hd hi hk
    obtain ⟨k, rfl⟩ : ∃ m, k = m + 1 := ⟨k - 1, by omega⟩
    refine ⟨-1, ?_, .inl ⟨rfl, fun j h1 h2 => by omega⟩⟩
    simp only [name_Sorted.l0]
    rw [if_neg (by omega)]
  | succ d ih =>
    intro i k hd hi hk
    obtain ⟨k, rfl⟩ : ∃ m, k = m + 1 := ⟨k - 1, by omega⟩
    have hlt : i < xs.length := by omega
    simp only [name_Sorted.l0]
    rw [wl i hi (by omega), wr i (by omega), if_pos (by omega), if_pos (by omega), if_pos (by omega), if_pos (by omega), rd_nat, rd_nat]
    by_cases h : Op.bytesLess (xs.getD (i - 1) ByteArray.empty).toList (xs.getD i ByteArray.empty).toList = true
    · rw [if_pos h]
      obtain ⟨r, hr, hf⟩ := ih (i + 1) k (by omega) (by omega) (by omega)
      refine ⟨r, hr, ?_⟩
      have step : ∀ m, i ≤ m → ¬ (i + 1 ≤ m) → up xs m = true := by
        intro m h1 h2
        obtain rfl : m = i := by omega
        exact h
      rcases hf with ⟨rfl, ha⟩ | ⟨j, rfl, h1, h2, h3, h4⟩
      · refine .inl ⟨rfl, fun j h1 h2 => ?_⟩
        by_cases e : i + 1 ≤ j
        · exact ha j e h2
        · exact step j h1 e
      · refine .inr ⟨j, rfl, by omega, h2, h3, fun m h5 h6 => ?_⟩
        by_cases e : i + 1 ≤ m
        · exact h4 m e h6
        · exact step m h5 e
    · rw [if_neg h]
      exact ⟨(i : Int), rfl, .inr ⟨i, rfl, Nat.le_refl _, hlt, Bool.eq_false_iff.2 h, fun m h1 h2 => by omega⟩⟩

theorem law_l0 (xs : List ByteArray) (hx : xs.length ≤ 9223372036854775807) (r : Int) (hf : First xs 1 r) (d : Nat) : ∀ (i k : Nat), xs.length - i = d → 1 ≤ i → 2 * d < k → (∀ m, 1 ≤ m → m < i → m < xs.length → up xs m = true) →
    depotlaw05_NameRises.l0 k xs r (i : Int) = some true := by
  induction d with
  | zero =>
    intro i k hd hi hk hu
    obtain ⟨k, rfl⟩ : ∃ m, k = m + 1 := ⟨k - 1, by omega⟩
    simp only [depotlaw05_NameRises.l0]
    rw [if_neg (by omega)]
    rcases hf with ⟨rfl, _⟩ | ⟨j, rfl, h1, h2, h3, _⟩
    · rfl
    · exact absurd (hu j h1 (by omega) h2) (by rw [h3]; decide)
  | succ d ih =>
    intro i k hd hi hk hu
    obtain ⟨k, rfl⟩ : ∃ m, k = m + 2 := ⟨k - 2, by omega⟩
    have hlt : i < xs.length := by omega
    simp only [depotlaw05_NameRises.l0]
    rw [wl i hi (by omega), if_pos (by omega), if_pos (by omega), if_pos (by omega), if_pos (by omega), rd_nat, rd_nat]
    have hc : name_Compare.f (xs.getD (i - 1) ByteArray.empty) (xs.getD i ByteArray.empty) = some (Lib.compareBytes (bs (xs.getD (i - 1) ByteArray.empty)) (bs (xs.getD i ByteArray.empty))) := rfl
    rw [hc]
    simp only [Option.bind_some, toList_bs]
    have hU : up xs i = Op.bytesLess (bs (xs.getD (i - 1) ByteArray.empty)) (bs (xs.getD i ByteArray.empty)) := by unfold up; rw [toList_bs, toList_bs]
    generalize bs (xs.getD (i - 1) ByteArray.empty) = a at hU
    generalize bs (xs.getD i ByteArray.empty) = b at hU
    have c1 := compare_less a b
    have c2 := compare_eq a b
    have c3 := compare_range a b
    generalize Lib.compareBytes a b = c at c1 c2 c3
    have e1 : ((decide (c < 0)) != (Op.bytesLess a b)) = false := by
      rw [bne_eq_false_iff_eq, Bool.eq_iff_iff, c1, decide_eq_true_iff]
      omega
    have e2 : ((c == 0) != (a == b)) = false := by
      rw [bne_eq_false_iff_eq, Bool.eq_iff_iff, beq_iff_eq, beq_iff_eq, c2]
    have e3 : (decide (c > 1)) = false := by rw [decide_eq_false_iff_not]; omega
    rw [e1, e2, e3, if_neg (by decide), if_neg (by decide), if_neg (by omega)]
    simp only [depotlaw05_NameRises.j2]
    rw [if_neg (by decide)]
    by_cases h : c ≥ 0
    · rw [if_pos h]
      have hn : up xs i = false := by rw [hU, Bool.eq_false_iff, Ne, c1]; omega
      congr 1
      rw [beq_iff_eq]
      rcases hf with ⟨rfl, ha⟩ | ⟨j, rfl, h1, h2, h3, h4⟩
      · exact absurd (ha i hi hlt) (by rw [hn]; decide)
      · rcases Nat.lt_trichotomy i j with h5 | h5 | h5
        · exact absurd (h4 i hi h5) (by rw [hn]; decide)
        · omega
        · exact absurd (hu j h1 h5 h2) (by rw [h3]; decide)
    · rw [if_neg h, wr i (by omega)]
      refine ih (i + 1) k (by omega) (by omega) (by omega) (fun m h1 h2 h3 => ?_)
      by_cases e : m < i
      · exact hu m h1 e h3
      · have : m = i := by omega
        subst this
        rw [hU, c1]
        omega
end Rises
open Rises in
theorem NameRises : depotlaw05_NameRises.Pure := by
  intro xs hw hg
  have hx : xs.length ≤ 9223372036854775807 := hg.1
  obtain ⟨r, hr, hf⟩ := sorted_l0 xs hx (xs.length - 1) 1 (2 * xs.length + 5) rfl (Nat.le_refl _) (by omega)
  refine ⟨2 * xs.length + 6, ?_⟩
  unfold depotlaw05_NameRises.f
  have hc : name_Compare.f (⟨#[97]⟩ : ByteArray) (⟨#[98]⟩ : ByteArray) = some (-1) := by decide
  have hs : name_Sorted.f (2 * xs.length + 6) [(⟨#[98]⟩ : ByteArray), (⟨#[97]⟩ : ByteArray)] = some 1 := by
    unfold name_Sorted.f
    simp only [name_Sorted.l0]
    have w0 : wrap64 (1 - 1) = 0 := w64 (by omega) (by omega)
    rw [w0]
    have e : Op.bytesLess (rdOf ByteArray.empty [(⟨#[98]⟩ : ByteArray), (⟨#[97]⟩ : ByteArray)] 0).toList (rdOf ByteArray.empty [(⟨#[98]⟩ : ByteArray), (⟨#[97]⟩ : ByteArray)] 1).toList = false := by
      rw [toList_bs, toList_bs]; decide
    rw [e]
    simp
  rw [hc]
  simp only [Option.bind_some]
  rw [if_pos (by decide), hs]
  simp only [Option.bind_some]
  have ej : ((1 : Int) != 1) = false := by decide
  rw [ej]
  simp only [depotlaw05_NameRises.j0]
  rw [if_neg (by decide)]
  unfold name_Sorted.f
  rw [show (1 : Int) = ((1 : Nat) : Int) from rfl, hr]
  simp only [Option.bind_some]
  exact law_l0 xs hx r hf (xs.length - 1) 1 (2 * xs.length + 5) rfl (Nat.le_refl _) (by omega) (fun m h1 h2 h3 => by omega)
end Go.Proofs.Ytabgpdpdgkgmbaa.Pure
