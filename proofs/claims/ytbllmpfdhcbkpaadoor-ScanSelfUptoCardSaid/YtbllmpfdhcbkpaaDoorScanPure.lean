/- What a rewriter and a scanner do, in plain Lean: texts as lists of bytes, hashes of 32. -/
import Derived.Test.YtbllmpfdhcbkpaaDoorRise
import Derived.Lib.IndexMore
namespace Go.Proofs.YtbllmpfdhcbkpaaDoor.Scan
open Go.RowKit Go.Proofs.YtbllmpfdhcbkpaaDoor.Bytes Go.Proofs.YtbllmpfdhcbkpaaDoor.Rise
set_option linter.unusedVariables false
set_option linter.unusedSimpArgs false
/-- The text with t in the place of f. -/
def R (f t : List UInt8) : List UInt8 → List UInt8
  | [] => []
  | c :: s => if (c :: s).take 32 = f then t ++ R f t ((c :: s).drop 32) else c :: R f t s
termination_by s => s.length
decreasing_by all_goals simp; try omega
/-- Where f stood; the text's first place is d. -/
def Pl (f : List UInt8) : List UInt8 → Nat → List Nat
  | [], _ => []
  | c :: s, d => if (c :: s).take 32 = f then d :: Pl f ((c :: s).drop 32) (d + 32) else Pl f s (d + 1)
termination_by s => s.length
decreasing_by all_goals simp; try omega
theorem R_nil (f t : List UInt8) : R f t [] = [] := by rw [R]
theorem Pl_nil (f : List UInt8) (d : Nat) : Pl f [] d = [] := by rw [Pl]
theorem R_hit {f t s : List UInt8} (hf : f.length = 32) (h : s.take 32 = f) : R f t s = t ++ R f t (s.drop 32) := by
  cases s with
  | nil => rw [List.take_nil] at h; subst h; simp at hf
  | cons c s => rw [R, if_pos h]
theorem Pl_hit {f s : List UInt8} (hf : f.length = 32) (h : s.take 32 = f) (d : Nat) : Pl f s d = d :: Pl f (s.drop 32) (d + 32) := by
  cases s with
  | nil => rw [List.take_nil] at h; subst h; simp at hf
  | cons c s => rw [Pl, if_pos h]
theorem R_miss {f t s : List UInt8} {c : UInt8} (h : (c :: s).take 32 ≠ f) : R f t (c :: s) = c :: R f t s := by rw [R, if_neg h]
theorem Pl_miss {f s : List UInt8} {c : UInt8} (h : (c :: s).take 32 ≠ f) (d : Nat) : Pl f (c :: s) d = Pl f s (d + 1) := by rw [Pl, if_neg h]
theorem skip {f t : List UInt8} (hf : f.length = 32) (q : List UInt8) : ∀ (n : Nat) (s : List UInt8), n = 0 ∨ n + 31 ≤ s.length → (∀ j, j < n → (s.drop j).take 32 ≠ f) → ∀ d,
    R f t (s ++ q) = s.take n ++ R f t (s.drop n ++ q) ∧ Pl f (s ++ q) d = Pl f (s.drop n ++ q) (d + n)
  | 0, s, _, _, d => by simp
  | n + 1, [], hl, _, d => by simp at hl
  | n + 1, c :: s, hl, h, d => by
    have hl : n + 31 ≤ s.length := by
      rcases hl with hl | hl
      · omega
      · rw [List.length_cons] at hl; omega
    have h0 : ((c :: s) ++ q).take 32 ≠ f := by
      have := h 0 (by omega)
      rw [List.drop_zero] at this
      rw [List.take_append_of_le_length (by rw [List.length_cons]; omega)]
      exact this
    obtain ⟨i1, i2⟩ := skip (t := t) hf q n s (Or.inr hl) (fun j hj => by have := h (j + 1) (by omega); rwa [List.drop_succ_cons] at this) (d + 1)
    constructor
    · show R f t (c :: (s ++ q)) = _
      rw [R_miss (s := s ++ q) h0, i1]
      rfl
    · show Pl f (c :: (s ++ q)) d = _
      rw [Pl_miss (s := s ++ q) h0, i2, List.drop_succ_cons, Nat.add_assoc, Nat.add_comm 1 n]
theorem occ_iff {s f : List UInt8} {j : Nat} : Lib.occAt s f j = true ↔ (s.drop j).take f.length = f := by
  unfold Lib.occAt
  rw [List.isPrefixOf_iff_prefix, List.prefix_iff_eq_take]
  exact eq_comm
/-- The first of f is at i. -/
theorem found {f t s : List UInt8} (hf : f.length = 32) {i : Nat} (h : Lib.index s f = i) (q : List UInt8) (d : Nat) : i + 32 ≤ s.length ∧ R f t (s ++ q) = (s.take i ++ t) ++ R f t (s.drop (i + 32) ++ q) ∧ Pl f (s ++ q) d = (d + i) :: Pl f (s.drop (i + 32) ++ q) (d + i + 32) := by
  have hr := Lib.index_room s f (by omega)
  rw [h, hf] at hr
  have hr : i + 32 ≤ s.length := by omega
  rcases Lib.index_spec s f with ⟨h1, _⟩ | ⟨i', h1, _, h3, h4⟩
  · omega
  · obtain rfl : i' = i := by omega
    have hw : (s.drop i').take 32 = f := by rw [← hf]; exact occ_iff.1 h3
    obtain ⟨s1, s2⟩ := skip (t := t) hf q i' s (Or.inr (by omega)) (fun j hj e => by
      have := h4 j hj
      rw [Bool.eq_false_iff] at this
      exact this (occ_iff.2 (by rw [hf]; exact e))) d
    have hq : (s.drop i' ++ q).take 32 = f := by rw [List.take_append_of_le_length (by rw [List.length_drop]; omega)]; exact hw
    have hd : (s.drop i' ++ q).drop 32 = s.drop (i' + 32) ++ q := by rw [List.drop_append_of_le_length (by rw [List.length_drop]; omega), List.drop_drop]
    refine ⟨hr, ?_, ?_⟩
    · rw [s1, R_hit hf hq, hd, List.append_assoc]
    · rw [s2, Pl_hit hf hq, hd]
/-- f stands nowhere: all but the last 31 is told. -/
theorem nowhere {f t s : List UInt8} (hf : f.length = 32) (h : Lib.index s f < 0) (q : List UInt8) (d : Nat) : R f t (s ++ q) = s.take (s.length - 31) ++ R f t (s.drop (s.length - 31) ++ q) ∧ Pl f (s ++ q) d = Pl f (s.drop (s.length - 31) ++ q) (d + (s.length - 31)) := by
  refine skip hf q _ s (by omega) (fun j hj e => ?_) d
  rcases Lib.index_spec s f with ⟨_, h2⟩ | ⟨i, h1, _⟩
  · have := h2 j (by omega)
    rw [Bool.eq_false_iff] at this
    exact this (occ_iff.2 (by rw [hf]; exact e))
  · omega
theorem short {f t : List UInt8} (hf : f.length = 32) : ∀ (s : List UInt8), s.length < 32 → ∀ d, R f t s = s ∧ Pl f s d = []
  | [], _, d => ⟨R_nil f t, Pl_nil f d⟩
  | c :: s, h, d => by
    have hm : (c :: s).take 32 ≠ f := fun e => by
      have := congrArg List.length e
      rw [hf, List.length_take] at this
      omega
    obtain ⟨i1, i2⟩ := short hf s (by rw [List.length_cons] at h; omega) (d + 1)
    rw [R_miss hm, Pl_miss hm, i1, i2]
    exact ⟨rfl, rfl⟩
theorem R_length {f t : List UInt8} (hf : f.length = 32) (ht : t.length = 32) : ∀ (n : Nat) (s : List UInt8), s.length ≤ n → (R f t s).length = s.length
  | 0, s, h => by
    obtain rfl := List.eq_nil_of_length_eq_zero (Nat.le_zero.1 h)
    rw [R_nil]
  | n + 1, [], _ => by rw [R_nil]
  | n + 1, c :: s, h => by
    rw [List.length_cons] at h
    by_cases e : (c :: s).take 32 = f
    · have hl := congrArg List.length e
      rw [hf, List.length_take, List.length_cons] at hl
      rw [R_hit hf e, List.length_append, R_length hf ht n _ (by rw [List.length_drop, List.length_cons]; omega), ht, List.length_drop, List.length_cons]
      omega
    · rw [R_miss e, List.length_cons, List.length_cons, R_length hf ht n s (by omega)]
/-- One feed: what is told, the places, the new end. -/
structure Fed (f t : List UInt8) (s out : List UInt8) (pl : List Nat) (d : Nat) (tail : List UInt8) (d' : Nat) : Prop where
  text : ∀ q, R f t (s ++ q) = out ++ R f t (tail ++ q)
  place : ∀ q, Pl f (s ++ q) d = pl ++ Pl f (tail ++ q) d'
  len : out.length + tail.length = s.length
  pos : d' + tail.length = d + s.length
theorem Fed.start (f t s : List UInt8) (d : Nat) : Fed f t s [] [] d s d := ⟨fun _ => rfl, fun _ => rfl, by simp, rfl⟩
theorem Fed.found {f t s out tail : List UInt8} {pl : List Nat} {d d' : Nat} (hf : f.length = 32) (ht : t.length = 32) (h : Fed f t s out pl d tail d') {i : Nat} (hi : Lib.index tail f = i) : i + 32 ≤ tail.length ∧ Fed f t s (out ++ (tail.take i ++ t)) (pl ++ [d' + i]) d (tail.drop (i + 32)) (d' + i + 32) := by
  have hr := (Scan.found (t := t) hf hi [] d').1
  refine ⟨hr, fun q => ?_, fun q => ?_, ?_, ?_⟩
  · rw [h.text q, (Scan.found (t := t) hf hi q d').2.1]
    simp only [List.append_assoc]
  · rw [h.place q, (Scan.found (t := t) hf hi q d').2.2, List.append_assoc]
    rfl
  · have := h.len
    simp only [List.length_append, List.length_take, List.length_drop, ht]
    omega
  · have := h.pos
    rw [List.length_drop]
    omega
theorem Fed.last {f t s out tail : List UInt8} {pl : List Nat} {d d' : Nat} (hf : f.length = 32) (h : Fed f t s out pl d tail d') (hi : Lib.index tail f < 0) : Fed f t s (out ++ tail.take (tail.length - 31)) pl d (tail.drop (tail.length - 31)) (d' + (tail.length - 31)) := by
  refine ⟨fun q => ?_, fun q => ?_, ?_, ?_⟩
  · rw [h.text q, (nowhere (t := t) hf hi q d').1, List.append_assoc]
  · rw [h.place q, (nowhere (t := t) hf hi q d').2]
  · have := h.len
    simp only [List.length_append, List.length_take, List.length_drop]
    omega
  · have := h.pos
    rw [List.length_drop]
    omega
/-- Fed twice. -/
theorem Fed.more {f t a b out out2 tail tail2 : List UInt8} {pl pl2 : List Nat} {d d1 d2 : Nat} (h : Fed f t a out pl d tail d1) (k : Fed f t (tail ++ b) out2 pl2 d1 tail2 d2) : Fed f t (a ++ b) (out ++ out2) (pl ++ pl2) d tail2 d2 := by
  refine ⟨fun q => ?_, fun q => ?_, ?_, ?_⟩
  · rw [List.append_assoc, h.text (b ++ q), ← List.append_assoc tail, k.text q, List.append_assoc]
  · rw [List.append_assoc, h.place (b ++ q), ← List.append_assoc tail, k.place q, List.append_assoc]
  · have := h.len
    have := k.len
    simp only [List.length_append] at *
    omega
  · have := h.pos
    have := k.pos
    simp only [List.length_append] at *
    omega
theorem Fed.whole {f t s out tail : List UInt8} {pl : List Nat} {d d' : Nat} (hf : f.length = 32) (h : Fed f t s out pl d tail d') (hs : tail.length < 32) : out ++ tail = R f t s ∧ pl = Pl f s d := by
  have h1 := h.text []
  have h2 := h.place []
  rw [List.append_nil, List.append_nil] at h1 h2
  rw [(short (t := t) hf tail hs 0).1] at h1
  rw [(short (t := t) hf tail hs d').2, List.append_nil] at h2
  exact ⟨h1.symm, h2.symm⟩
/-- h stands in s. -/
def Occ (s h : List UInt8) : Prop := ∃ a, (s.drop a).take 32 = h
theorem win_length {s h : List UInt8} {a : Nat} (hh : h.length = 32) (e : (s.drop a).take 32 = h) : a + 32 ≤ s.length := by
  have := congrArg List.length e
  rw [hh, List.length_take, List.length_drop] at this
  omega
/-- What was kept of all that came in. -/
def keep (s : List UInt8) : List UInt8 := s.drop (s.length - 31)
theorem keep_more (s p : List UInt8) : keep (keep s ++ p) = keep (s ++ p) := by
  unfold keep
  by_cases h : s.length ≤ 31
  · rw [Nat.sub_eq_zero_of_le h, List.drop_zero]
  · have hk : (s.drop (s.length - 31)).length = 31 := by rw [List.length_drop]; omega
    rw [List.length_append, hk, List.length_append, show 31 + p.length - 31 = p.length by omega, show s.length + p.length - 31 = (s.length - 31) + p.length by omega, ← List.drop_drop, List.drop_append_of_le_length (show s.length - 31 ≤ s.length by omega)]
theorem occ_more {s p h : List UInt8} (hh : h.length = 32) : Occ (s ++ p) h ↔ Occ s h ∨ Occ (keep s ++ p) h := by
  have he : keep s ++ p = (s ++ p).drop (s.length - 31) := by unfold keep; rw [List.drop_append_of_le_length (by omega)]
  constructor
  · rintro ⟨a, e⟩
    by_cases ha : a + 32 ≤ s.length
    · refine Or.inl ⟨a, ?_⟩
      rw [List.drop_append_of_le_length (by omega), List.take_append_of_le_length (by rw [List.length_drop]; omega)] at e
      exact e
    · refine Or.inr ⟨a - (s.length - 31), ?_⟩
      rw [he, List.drop_drop, show s.length - 31 + (a - (s.length - 31)) = a by omega]
      exact e
  · rintro (⟨a, e⟩ | ⟨a, e⟩)
    · have ha := win_length hh e
      refine ⟨a, ?_⟩
      rw [List.drop_append_of_le_length (by omega), List.take_append_of_le_length (by rw [List.length_drop]; omega)]
      exact e
    · rw [he, List.drop_drop] at e
      exact ⟨_, e⟩
end Go.Proofs.YtbllmpfdhcbkpaaDoor.Scan
