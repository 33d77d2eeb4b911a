/- More on 'fits': patterns one behind the other, the table row by row. No program in sight. -/
import Derived.Test.YtabgpdpdgkgmbaaMatchPure
set_option linter.unusedVariables false
set_option linter.unusedSimpArgs false
namespace Go.Proofs.Ytabgpdpdgkgmbaa.Fits
open Go.Proofs.YtabgpdpdgkgmbaaW.PrintWords

theorem fits_append (p q t : List UInt8) : fits (p ++ q) t = true ↔ ∃ k, k ≤ t.length ∧ fits p (t.take k) = true ∧ fits q (t.drop k) = true := by
  induction p generalizing t with
  | nil =>
    rw [List.nil_append]
    constructor
    · intro h
      exact ⟨0, by omega, by simp [fits], by simpa using h⟩
    · rintro ⟨k, hk, h1, h2⟩
      rw [fits_nil, List.isEmpty_iff, List.take_eq_nil_iff] at h1
      rcases h1 with rfl | rfl
      · simpa using h2
      · simpa using h2
  | cons c p ih =>
    rw [List.cons_append]
    by_cases hc : c = 42
    · subst hc
      rw [fits_star]
      constructor
      · rintro ⟨k, hk, h⟩
        rw [ih] at h
        obtain ⟨j, hj, h1, h2⟩ := h
        rw [List.length_drop] at hj
        rw [List.drop_drop] at h2
        refine ⟨k + j, by omega, ?_, h2⟩
        rw [fits_star]
        refine ⟨k, by rw [List.length_take]; omega, ?_⟩
        rw [List.drop_take, show k + j - k = j by omega]
        exact h1
      · rintro ⟨m, hm, h1, h2⟩
        rw [fits_star] at h1
        obtain ⟨k, hk, h1⟩ := h1
        rw [List.length_take] at hk
        rw [List.drop_take] at h1
        refine ⟨k, by omega, ?_⟩
        rw [ih]
        refine ⟨m - k, by rw [List.length_drop]; omega, h1, ?_⟩
        rw [List.drop_drop, show k + (m - k) = m by omega]
        exact h2
    · cases t with
      | nil =>
        rw [fits_plain hc]
        constructor
        · intro h; exact absurd h (by simp)
        · rintro ⟨k, hk, h1, h2⟩
          rw [List.take_nil, fits_plain hc] at h1
          exact absurd h1 (by simp)
      | cons x t =>
        rw [fits_char hc, Bool.and_eq_true, ih]
        constructor
        · rintro ⟨h, k, hk, h1, h2⟩
          refine ⟨k + 1, by simp; omega, ?_, by simpa using h2⟩
          rw [List.take_succ_cons, fits_char hc, h, h1]
          rfl
        · rintro ⟨k, hk, h1, h2⟩
          cases k with
          | zero =>
            rw [List.take_zero, fits_plain hc] at h1
            exact absurd h1 (by simp)
          | succ k =>
            rw [List.take_succ_cons, fits_char hc, Bool.and_eq_true] at h1
            exact ⟨h1.1, k, by simp at hk; omega, h1.2, by simpa using h2⟩

/-- A letter more. -/
theorem fits_snoc {c : UInt8} (hc : c ≠ 42) (p t : List UInt8) (x : UInt8) : fits (p ++ [c]) (t ++ [x]) = (fits p t && (c == 63 || c == x)) := by
  rw [Bool.eq_iff_iff, fits_append, Bool.and_eq_true]
  constructor
  · rintro ⟨k, hk, h1, h2⟩
    rw [List.length_append, List.length_singleton] at hk
    rcases Nat.lt_or_ge k t.length with h | h
    · rw [List.drop_append_of_le_length (by omega), drop_cons t k h, List.cons_append, fits_char hc, Bool.and_eq_true] at h2
      have := h2.2
      rw [fits_nil, List.isEmpty_iff] at this
      simp at this
    · rcases Nat.lt_or_ge t.length k with h' | h'
      · rw [List.drop_of_length_le (by simp; omega), fits_plain hc] at h2
        exact absurd h2 (by simp)
      · have e : k = t.length := by omega
        subst e
        rw [List.take_left] at h1
        rw [List.drop_left, fits_char hc, Bool.and_eq_true] at h2
        exact ⟨h1, h2.1⟩
  · rintro ⟨h1, h2⟩
    refine ⟨t.length, by simp, by rw [List.take_left]; exact h1, ?_⟩
    rw [List.drop_left, fits_char hc, h2]
    rfl
theorem fits_snoc_nil {c : UInt8} (hc : c ≠ 42) (p : List UInt8) : fits (p ++ [c]) [] = false := by
  rw [fits_end]
  unfold stars
  rw [List.all_append, List.all_cons, beq_eq_false_iff_ne.2 hc, Bool.false_and, Bool.and_false]
/-- A star more. -/
theorem fits_any (t : List UInt8) : fits [42] t = true := by
  rw [fits_star]
  exact ⟨t.length, Nat.le_refl _, by rw [List.drop_of_length_le (Nat.le_refl _)]; rfl⟩
theorem fits_snoc_star (p t : List UInt8) (x : UInt8) : fits (p ++ [42]) (t ++ [x]) = (fits p (t ++ [x]) || fits (p ++ [42]) t) := by
  rw [Bool.eq_iff_iff, Bool.or_eq_true, fits_append, fits_append]
  constructor
  · rintro ⟨k, hk, h1, h2⟩
    rw [List.length_append, List.length_singleton] at hk
    rcases Nat.lt_or_ge t.length k with h | h
    · left
      rw [List.take_of_length_le (by simp; omega)] at h1
      exact h1
    · right
      rw [List.take_append_of_le_length h] at h1
      exact ⟨k, h, h1, fits_any _⟩
  · rintro (h | ⟨k, hk, h1, h2⟩)
    · exact ⟨(t ++ [x]).length, Nat.le_refl _, by rw [List.take_length]; exact h, fits_any _⟩
    · exact ⟨k, by simp; omega, by rw [List.take_append_of_le_length hk]; exact h1, fits_any _⟩
theorem fits_snoc_star_nil (p : List UInt8) : fits (p ++ [42]) [] = fits p [] := by
  rw [fits_end, fits_end]
  unfold stars
  rw [List.all_append]
  simp

/-! The table's rows. -/
def Row (p S : List UInt8) : List Bool := (List.range (S.length + 1)).map fun j => fits p (S.take j)
def nx (p S : List UInt8) (j : Nat) : List Bool := (Row p S).take j ++ List.replicate (S.length + 1 - j) false
theorem Row_length (p S : List UInt8) : (Row p S).length = S.length + 1 := by simp [Row]
theorem nx_length (p S : List UInt8) (j : Nat) (h : j ≤ S.length + 1) : (nx p S j).length = S.length + 1 := by simp [nx, Row_length]; omega
theorem Row_get (p S : List UInt8) (j : Nat) (h : j ≤ S.length) : (Row p S).getD j false = fits p (S.take j) := by
  unfold Row
  rw [List.getD_eq_getElem?_getD, List.getElem?_map, List.getElem?_range (by omega)]
  rfl
theorem nx_start (p S : List UInt8) : nx p S 0 = List.replicate (S.length + 1) false := by simp [nx]
theorem nx_done (p S : List UInt8) : nx p S (S.length + 1) = Row p S := by
  unfold nx
  rw [Nat.sub_self, List.take_of_length_le (by rw [Row_length]; omega)]
  simp
theorem nx_set (p S : List UInt8) (j : Nat) (h : j ≤ S.length) : (nx p S j).set j (fits p (S.take j)) = nx p S (j + 1) := by
  apply List.ext_getElem?
  intro n
  have e : (nx p S j).length = S.length + 1 := nx_length p S j (by omega)
  have g : ∀ m n, m ≤ S.length + 1 → (nx p S m)[n]? = if n < m then some (fits p (S.take n)) else if n < S.length + 1 then some false else none := by
    intro m n hm
    unfold nx
    rw [List.getElem?_append, List.length_take, Row_length]
    by_cases h1 : n < m
    · rw [if_pos (by omega), if_pos h1, List.getElem?_take, if_pos h1]
      unfold Row
      rw [List.getElem?_map, List.getElem?_range (by omega)]
      rfl
    · rw [if_neg (by omega), if_neg h1, List.getElem?_replicate]
      by_cases h2 : n < S.length + 1
      · rw [if_pos (by omega), if_pos h2]
      · rw [if_neg (by omega), if_neg h2]
  rw [List.getElem?_set, g j n (by omega), g (j + 1) n (by omega), e]
  by_cases h1 : j = n
  · subst h1
    rw [if_pos rfl, if_pos (by omega), if_pos (by omega)]
  · rw [if_neg h1]
    by_cases h2 : n < j
    · rw [if_pos h2, if_pos (show n < j + 1 by omega)]
    · rw [if_neg h2, if_neg (show ¬ n < j + 1 by omega)]
theorem nx_skip (p S : List UInt8) (j : Nat) (h : j ≤ S.length) (hf : fits p (S.take j) = false) : nx p S j = nx p S (j + 1) := by
  rw [← nx_set p S j h, hf]
  unfold nx
  apply List.ext_getElem?
  intro n
  rw [List.getElem?_set, List.length_append, List.length_take, Row_length, List.length_replicate]
  by_cases h1 : j = n
  · subst h1
    rw [if_pos rfl, if_pos (by omega), List.getElem?_append, List.length_take, Row_length, if_neg (by omega), List.getElem?_replicate, if_pos (by omega)]
  · rw [if_neg h1]
theorem nx_get (p S : List UInt8) (j : Nat) (h : j ≤ S.length) : (nx p S (j + 1)).getD j false = fits p (S.take j) := by
  rw [← nx_set p S j h, List.getD_eq_getElem?_getD, List.getElem?_set, if_pos rfl, if_pos (by rw [nx_length p S j (by omega)]; omega)]
  rfl
theorem take_snoc (l : List UInt8) (j : Nat) (h : j < l.length) : l.take (j + 1) = l.take j ++ [l[j]] := by
  rw [List.take_succ_eq_append_getElem h]
end Go.Proofs.Ytabgpdpdgkgmbaa.Fits
