/- Patterns with stars and question marks, as a plain function of two lists of bytes, and what a greedy matcher keeps. No program in sight. -/
import Derived.Test.YtabgpdpdgkgmbaaBytes
set_option linter.unusedVariables false
set_option linter.unusedSimpArgs false
namespace Go.Proofs.Ytabgpdpdgkgmbaa.Fits

/-- Does a test hold of some end of a list? -/
def anyDrop (f : List UInt8 → Bool) : List UInt8 → Bool
  | [] => f []
  | x :: t => f (x :: t) || anyDrop f t
/-- Does the whole of s fit the pattern? -/
def fits : List UInt8 → List UInt8 → Bool
  | [], s => s.isEmpty
  | c :: p, s => if c = 42 then anyDrop (fits p) s else match s with | [] => false | x :: t => (c == 63 || c == x) && fits p t
theorem anyDrop_iff (f : List UInt8 → Bool) (s : List UInt8) : anyDrop f s = true ↔ ∃ k, k ≤ s.length ∧ f (s.drop k) = true := by
  induction s with
  | nil => simp [anyDrop]
  | cons x t ih =>
    simp only [anyDrop, Bool.or_eq_true, ih]
    constructor
    · rintro (h | ⟨k, hk, h⟩)
      · exact ⟨0, by simp, h⟩
      · exact ⟨k + 1, by simp; omega, h⟩
    · rintro ⟨k, hk, h⟩
      cases k with
      | zero => exact .inl h
      | succ k => exact .inr ⟨k, by simp at hk; omega, h⟩
theorem fits_nil (s : List UInt8) : fits [] s = s.isEmpty := rfl
theorem fits_star (p s : List UInt8) : fits (42 :: p) s = true ↔ ∃ k, k ≤ s.length ∧ fits p (s.drop k) = true := by
  rw [← anyDrop_iff]; rfl
theorem fits_plain {c : UInt8} (h : c ≠ 42) (p s : List UInt8) : fits (c :: p) s = match s with | [] => false | x :: t => (c == 63 || c == x) && fits p t := by
  show (if c = 42 then _ else _) = _
  rw [if_neg h]
theorem fits_char {c : UInt8} (h : c ≠ 42) (p : List UInt8) (x : UInt8) (t : List UInt8) : fits (c :: p) (x :: t) = ((c == 63 || c == x) && fits p t) := fits_plain h p (x :: t)
theorem drop_cons {α : Type} [Inhabited α] (l : List α) (i : Nat) (h : i < l.length) : l.drop i = l[i] :: l.drop (i + 1) := List.drop_eq_getElem_cons h

/-- Behind an end: only stars are left. -/
def stars (p : List UInt8) : Bool := p.all (· == 42)
theorem fits_end (p : List UInt8) : fits p [] = stars p := by
  induction p with
  | nil => rfl
  | cons c p ih =>
    by_cases h : c = 42
    · subst h
      have : fits (42 :: p) [] = fits p [] := rfl
      rw [this, ih]
      simp [stars]
    · rw [fits_plain h]
      simp [stars, h]

/-- The first n letters of a pattern are no stars and fit the first n bytes. -/
def lit (p s : List UInt8) : Nat → Prop
  | 0 => True
  | n + 1 => lit p s n ∧ ∃ (h : n < p.length) (h' : n < s.length), p[n] ≠ 42 ∧ (p[n] = 63 ∨ p[n] = s[n])
/-- What lies behind such letters decides. -/
theorem lit_fits (p s : List UInt8) (n : Nat) (h : lit p s n) : fits p s = fits (p.drop n) (s.drop n) ∧ n ≤ p.length ∧ n ≤ s.length := by
  induction n with
  | zero => simp
  | succ n ih =>
    obtain ⟨h0, h1, h2, h3, h4⟩ := h
    obtain ⟨e, _, _⟩ := ih h0
    refine ⟨?_, by omega, by omega⟩
    rw [e, drop_cons p n h1, drop_cons s n h2, fits_char h3]
    have : (p[n] == 63 || p[n] == s[n]) = true := by simpa using h4
    rw [this, Bool.true_and]
/-- Letters that are no stars take as many bytes, wherever they stand. -/
theorem lit_takes (p s : List UInt8) (n : Nat) (h : lit p s n) (u : List UInt8) (hf : fits p u = true) : n ≤ u.length ∧ fits (p.drop n) (u.drop n) = true := by
  induction n with
  | zero => exact ⟨by omega, by simpa using hf⟩
  | succ n ih =>
    obtain ⟨h0, h1, h2, h3, h4⟩ := h
    obtain ⟨a, b⟩ := ih h0
    rw [drop_cons p n h1] at b
    by_cases l : n < u.length
    · rw [drop_cons u n l, fits_char h3] at b
      simp at b
      exact ⟨by omega, b.2⟩
    · rw [List.drop_of_length_le (by omega : u.length ≤ n), fits_plain h3] at b
      simp at b

/-- What the matcher keeps: i, j: where it stands in pattern and text; st: the last star, if there was one (st + 1: behind it); m: where its take ends. -/
structure Inv0 (P S : List UInt8) (i j : Nat) : Prop where
  hi : i ≤ P.length
  hj : j ≤ S.length
  h : fits P S = fits (P.drop i) (S.drop j)
structure Inv1 (P S : List UInt8) (i j st m : Nat) : Prop where
  hi : i ≤ P.length
  hj : j ≤ S.length
  hm : m ≤ j
  hst : i = st + 1 + (j - m)
  hl : lit (P.drop (st + 1)) (S.drop m) (j - m)
  h : fits P S = true ↔ ∃ k, m ≤ k ∧ k ≤ S.length ∧ fits (P.drop (st + 1)) (S.drop k) = true

variable {P S : List UInt8} {i j st m : Nat}
theorem Inv0.start (P S : List UInt8) : Inv0 P S 0 0 := ⟨by omega, by omega, by simp⟩
theorem Inv0.star (h : Inv0 P S i j) (h0 : i < P.length) (hc : P[i] = 42) : Inv1 P S (i + 1) j i j := by
  refine ⟨by omega, h.hj, by omega, by omega, by rw [Nat.sub_self]; trivial, ?_⟩
  rw [h.h, drop_cons P i h0, hc, fits_star]
  constructor
  · rintro ⟨k, hk, hf⟩
    rw [List.length_drop] at hk
    rw [List.drop_drop] at hf
    have := h.hj
    exact ⟨j + k, by omega, by omega, hf⟩
  · rintro ⟨k, hk, hk2, hf⟩
    refine ⟨k - j, by rw [List.length_drop]; omega, ?_⟩
    rw [List.drop_drop, show j + (k - j) = k by omega]
    exact hf
theorem Inv1.star (h : Inv1 P S i j st m) (h0 : i < P.length) (hc : P[i] = 42) : Inv1 P S (i + 1) j i j := by
  have hj := h.hj
  have hm := h.hm
  have hst := h.hst
  refine ⟨by omega, h.hj, by omega, by omega, by rw [Nat.sub_self]; trivial, ?_⟩
  rw [h.h]
  have eP : (P.drop (st + 1)).drop (j - m) = 42 :: P.drop (i + 1) := by
    rw [List.drop_drop, show st + 1 + (j - m) = i by omega, drop_cons P i h0, hc]
  constructor
  · rintro ⟨k, hk, hk2, hf⟩
    obtain ⟨a, b⟩ := lit_takes _ _ _ h.hl _ hf
    rw [eP, List.drop_drop, fits_star] at b
    obtain ⟨q, hq, b⟩ := b
    rw [List.length_drop] at hq a
    rw [List.drop_drop] at b
    exact ⟨k + (j - m) + q, by omega, by omega, b⟩
  · rintro ⟨k, hk, hk2, hf⟩
    refine ⟨m, by omega, by omega, ?_⟩
    rw [(lit_fits _ _ _ h.hl).1, eP, List.drop_drop, show m + (j - m) = j by omega, fits_star]
    refine ⟨k - j, by rw [List.length_drop]; omega, ?_⟩
    rw [List.drop_drop, show j + (k - j) = k by omega]
    exact hf
theorem Inv0.char (h : Inv0 P S i j) (h0 : i < P.length) (h1 : j < S.length) (hc : P[i] ≠ 42) (hx : P[i] = 63 ∨ P[i] = S[j]) : Inv0 P S (i + 1) (j + 1) := by
  refine ⟨by omega, by omega, ?_⟩
  rw [h.h, drop_cons P i h0, drop_cons S j h1, fits_char hc]
  have : (P[i] == 63 || P[i] == S[j]) = true := by simpa using hx
  rw [this, Bool.true_and]
theorem Inv1.char (h : Inv1 P S i j st m) (h0 : i < P.length) (h1 : j < S.length) (hc : P[i] ≠ 42) (hx : P[i] = 63 ∨ P[i] = S[j]) : Inv1 P S (i + 1) (j + 1) st m := by
  have hm := h.hm
  have hst := h.hst
  refine ⟨by omega, by omega, by omega, by omega, ?_, h.h⟩
  rw [show j + 1 - m = (j - m) + 1 by omega]
  refine ⟨h.hl, by rw [List.length_drop]; omega, by rw [List.length_drop]; omega, ?_⟩
  simp only [List.getElem_drop]
  have e1 : st + 1 + (j - m) = i := by omega
  have e2 : m + (j - m) = j := by omega
  simp only [e1, e2]
  exact ⟨hc, hx⟩
/-- Here the pattern doesn't go on. -/
def Off (P S : List UInt8) (i j : Nat) : Prop := ∀ (h0 : i < P.length) (h1 : j < S.length), P[i] ≠ 42 ∧ P[i] ≠ 63 ∧ P[i] ≠ S[j]
theorem off_fits (h1 : j < S.length) (hi : i ≤ P.length) (ho : Off P S i j) : fits (P.drop i) (S.drop j) = false := by
  rw [drop_cons S j h1]
  by_cases h0 : i < P.length
  · obtain ⟨a, b, c⟩ := ho h0 h1
    rw [drop_cons P i h0, fits_char a]
    have : (P[i] == 63 || P[i] == S[j]) = false := by simp [b, c]
    rw [this, Bool.false_and]
  · rw [List.drop_of_length_le (by omega)]
    rfl
theorem Inv0.fail (h : Inv0 P S i j) (h1 : j < S.length) (ho : Off P S i j) : fits P S = false := by rw [h.h, off_fits h1 h.hi ho]
theorem Inv1.back (h : Inv1 P S i j st m) (h1 : j < S.length) (ho : Off P S i j) : Inv1 P S (st + 1) (m + 1) st (m + 1) := by
  have hm := h.hm
  have hst := h.hst
  have hi := h.hi
  refine ⟨by omega, by omega, by omega, by omega, by rw [Nat.sub_self]; trivial, ?_⟩
  rw [h.h]
  constructor
  · rintro ⟨k, hk, hk2, hf⟩
    by_cases e : k = m
    · subst e
      exfalso
      rw [(lit_fits _ _ _ h.hl).1, List.drop_drop, List.drop_drop, show st + 1 + (j - k) = i by omega, show k + (j - k) = j by omega, off_fits h1 h.hi ho] at hf
      exact absurd hf (by simp)
    · exact ⟨k, by omega, hk2, hf⟩
  · rintro ⟨k, hk, hk2, hf⟩
    exact ⟨k, by omega, hk2, hf⟩
theorem Inv0.done (h : Inv0 P S i j) (h1 : S.length ≤ j) : fits P S = stars (P.drop i) := by
  rw [h.h, List.drop_of_length_le h1, fits_end]
theorem Inv1.done (h : Inv1 P S i j st m) (h1 : S.length ≤ j) : fits P S = stars (P.drop i) := by
  have hm := h.hm
  have hst := h.hst
  have hj := h.hj
  have e : (P.drop (st + 1)).drop (j - m) = P.drop i := by rw [List.drop_drop, show st + 1 + (j - m) = i by omega]
  rw [Bool.eq_iff_iff, h.h, ← fits_end]
  constructor
  · rintro ⟨k, hk, hk2, hf⟩
    obtain ⟨a, b⟩ := lit_takes _ _ _ h.hl _ hf
    rw [List.length_drop] at a
    have eS : S.drop (k + (j - m)) = [] := List.drop_of_length_le (by omega)
    rw [e, List.drop_drop, eS] at b
    exact b
  · intro hf
    refine ⟨m, by omega, by omega, ?_⟩
    have eS : S.drop (m + (j - m)) = [] := List.drop_of_length_le (by omega)
    rw [(lit_fits _ _ _ h.hl).1, e, List.drop_drop, eS]
    exact hf
theorem stars_step {i : Nat} (h0 : i < P.length) (hc : P[i] = 42) : stars (P.drop i) = stars (P.drop (i + 1)) := by
  rw [drop_cons P i h0]
  unfold stars
  rw [List.all_cons, beq_iff_eq.2 hc, Bool.true_and]
theorem stars_no {i : Nat} (h0 : i < P.length) (hc : P[i] ≠ 42) : stars (P.drop i) = false := by
  rw [drop_cons P i h0]
  unfold stars
  rw [List.all_cons, beq_eq_false_iff_ne.2 hc, Bool.false_and]
end Go.Proofs.Ytabgpdpdgkgmbaa.Fits
