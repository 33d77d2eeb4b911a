/- The recipe's text as plain Lean: printed, and read again. -/
import Derived.Test.YtdkkgeibifpgiaaRcLo
import Derived.Test.YtdkkgeibifpgiaaRcText
namespace Go.Proofs.Ytdkkgeibifpgiaa.Rc
open Go.RowKit Go.Proofs.YtdkkgeibifpgiaaW.PrintWords Go.Proofs.Ytdkkgeibifpgiaa.Bytes Go.Proofs.Ytdkkgeibifpgiaa.Q
set_option linter.unusedVariables false
set_option linter.unusedSimpArgs false

def stepP (s : S47) : List UInt8 := 40 :: (commaL ((s.f0 :: s.f1).map quoteB) ++ [41])
def printL (x : ByteArray × List ByteArray × List S47) : List UInt8 :=
  [82, 101, 99, 105, 112, 101, 40] ++ (quoteB x.1 ++ ([44] ++ (([91] ++ (commaL (x.2.1.map quoteB) ++ [93])) ++ ([44] ++ (([91] ++ (commaL (x.2.2.map stepP) ++ [93])) ++ [41])))))

/-- What is printed is read, and nothing else. -/
structure Rt {α : Type} (P : List UInt8 → Res α) (pr : α → List UInt8) : Prop where
  fwd : ∀ x s, P (pr x ++ s) = .ok x s
  bwd : ∀ t x s, P t = .ok x s → t = pr x ++ s
theorem word_fwd (w s : List UInt8) : wordL w (w ++ s) = .ok () s := by
  induction w with
  | nil => rfl
  | cons c w ih => rw [List.cons_append, wordL, if_pos rfl, ih]
theorem body_fwd : ∀ (l s : List UInt8), strBody (l.flatMap qesc ++ 34 :: s) = .ok l s
  | [], s => by rw [List.flatMap_nil, List.nil_append, strBody_cons, if_pos rfl]
  | x :: l, s => by
    have ih := body_fwd l s
    rw [List.flatMap_cons, List.append_assoc]
    by_cases h1 : x = 34 ∨ x = 92
    · have e : qesc x = [92, x] := by unfold qesc; rw [if_pos h1]
      have hy : esc x = some x := by rcases h1 with rfl | rfl <;> decide
      rw [e, List.cons_append, List.cons_append, List.nil_append, strBody_cons, if_neg (by decide), if_neg (by decide), if_pos rfl]
      simp only [hy, ih, Res.map]
    · by_cases h2 : x = 10
      · have e : qesc x = [92, 110] := by unfold qesc; rw [if_neg h1, if_pos h2]
        rw [e, List.cons_append, List.cons_append, List.nil_append, strBody_cons, if_neg (by decide), if_neg (by decide), if_pos rfl]
        simp only [show esc 110 = some 10 from by decide, ih, Res.map, h2]
      · by_cases h3 : x = 9
        · have e : qesc x = [92, 116] := by unfold qesc; rw [if_neg h1, if_neg h2, if_pos h3]
          rw [e, List.cons_append, List.cons_append, List.nil_append, strBody_cons, if_neg (by decide), if_neg (by decide), if_pos rfl]
          simp only [show esc 116 = some 9 from by decide, ih, Res.map, h3]
        · have e : qesc x = [x] := by unfold qesc; rw [if_neg h1, if_neg h2, if_neg h3]
          rw [e, List.cons_append, List.nil_append, strBody_cons, if_neg (fun e => h1 (.inl e)), if_neg (fun e => e.elim h2 h3), if_neg (fun e => h1 (.inr e)), ih]
          rfl
theorem qesc_esc (y c : UInt8) (h : esc y = some c) : qesc c = [92, y] := by
  unfold esc at h
  split at h
  · rename_i e; cases h; subst e; decide
  · split at h
    · rename_i e; cases h; subst e; decide
    · split at h
      · rename_i e; cases h; subst e; decide
      · split at h
        · rename_i e; cases h; subst e; decide
        · cases h
theorem body_bwd : ∀ (n : Nat) (t : List UInt8), t.length ≤ n → ∀ l s, strBody t = .ok l s → t = l.flatMap qesc ++ 34 :: s
  | _, [], _, l, s, h => by cases h
  | 0, y :: s, hn, _, _, h => by simp at hn
  | n + 1, x :: t, hn, l, s, h => by
    have hn' : t.length ≤ n := by simpa using hn
    rw [strBody_cons] at h
    by_cases e1 : x = 34
    · rw [if_pos e1] at h
      cases h
      subst e1; rfl
    · rw [if_neg e1] at h
      by_cases e2 : x = 10 ∨ x = 9
      · rw [if_pos e2] at h; cases h
      · rw [if_neg e2] at h
        by_cases e3 : x = 92
        · rw [if_pos e3] at h
          cases t with
          | nil => cases h
          | cons y t =>
            simp only at h
            cases hy : esc y with
            | none => rw [hy] at h; cases h
            | some c =>
              rw [hy] at h
              cases hb : strBody t with
              | bad l2 => rw [hb] at h; cases h
              | ok x2 r2 =>
                rw [hb] at h
                cases h
                rw [body_bwd n t (by simp at hn'; omega) _ _ hb, List.flatMap_cons, qesc_esc y c hy, e3]
                rfl
        · rw [if_neg e3] at h
          cases hb : strBody t with
          | bad l2 => rw [hb] at h; cases h
          | ok x2 r2 =>
            rw [hb] at h
            cases h
            have e : qesc x = [x] := by unfold qesc; rw [if_neg (fun h => h.elim e1 e3), if_neg (fun h => e2 (.inl h)), if_neg (fun h => e2 (.inr h))]
            rw [List.flatMap_cons, e, List.append_assoc, ← body_bwd n t hn' _ _ hb]
            rfl
theorem Rt.str : Rt strL quoteL := by
  refine ⟨fun x s => ?_, fun t x s h => ?_⟩
  · unfold strL quoteL
    have e : (34 :: (x.flatMap qesc ++ [34])) ++ s = [34] ++ (x.flatMap qesc ++ 34 :: s) := by simp
    rw [e, word_fwd]
    exact body_fwd x s
  · unfold strL at h
    cases hw : wordL [34] t with
    | bad l => rw [hw] at h; cases h
    | ok u r =>
      have hs := wordL_len _ _ _ hw
      rw [hw] at h
      rw [hs, body_bwd _ r (Nat.le_refl _) x s h]
      simp [quoteL]
theorem bs_mk (l : List UInt8) : bs (⟨l.toArray⟩ : ByteArray) = l := rfl
theorem mk_bs (b : ByteArray) : (⟨(bs b).toArray⟩ : ByteArray) = b := rfl
theorem Rt.strB : Rt strB quoteB := by
  refine ⟨fun x s => ?_, fun t x s h => ?_⟩
  · have e : Rc.strB (quoteB x ++ s) = (strL (quoteL (bs x) ++ s)).map (fun l => (⟨l.toArray⟩ : ByteArray)) := rfl
    rw [e, Rt.str.fwd]
    rfl
  · have e : Rc.strB t = (strL t).map (fun l => (⟨l.toArray⟩ : ByteArray)) := rfl
    rw [e] at h
    cases hs : strL t with
    | bad l => rw [hs] at h; cases h
    | ok l r =>
      rw [hs] at h
      cases h
      exact Rt.str.bwd t l s hs
section
variable {α : Type} {one : List UInt8 → Res α} {pr : α → List UInt8}
theorem more_fwd (h1 : Rt one pr) (e : UInt8) (he : ¬ e = 44) : ∀ (xs : List α) (n : Nat) (s : List UInt8), xs.length < n → moreL one e n ((xs.map pr).flatMap (44 :: ·) ++ e :: s) = .ok xs s
  | [], n, s, hn => by
    obtain ⟨m, rfl⟩ : ∃ m, n = m + 1 := ⟨n - 1, by simp at hn; omega⟩
    rw [moreL]
    simp
  | x :: xs, n, s, hn => by
    obtain ⟨m, rfl⟩ : ∃ m, n = m + 1 := ⟨n - 1, by simp at hn; omega⟩
    have ih := more_fwd h1 e he xs m s (by simp at hn; omega)
    rw [moreL, List.map_cons, List.flatMap_cons, List.cons_append, List.cons_append, if_neg (by simp; exact fun h => he h.symm)]
    have e2 : 44 :: (pr x ++ (xs.map pr).flatMap (44 :: ·) ++ e :: s) = [44] ++ (pr x ++ ((xs.map pr).flatMap (44 :: ·) ++ e :: s)) := by simp
    rw [e2, word_fwd]
    simp only [Res.bind, h1.fwd, ih, Res.map]
theorem more_bwd (h1 : Rt one pr) (e : UInt8) : ∀ (n : Nat) (t : List UInt8) (xs : List α) (s : List UInt8), moreL one e n t = .ok xs s → t = (xs.map pr).flatMap (44 :: ·) ++ e :: s
  | 0, t, xs, s, h => by cases h
  | n + 1, t, xs, s, h => by
    rw [moreL] at h
    split at h
    · rename_i h0
      cases h
      cases t with
      | nil => cases h0
      | cons y t =>
        have : y = e := by simpa using h0
        subst this; rfl
    · cases hw : wordL [44] t with
      | bad l => rw [hw] at h; cases h
      | ok u r0 =>
        have hs := wordL_len _ _ _ hw
        rw [hw] at h
        cases ho : one r0 with
        | bad l => simp only [Res.bind, ho] at h; cases h
        | ok x r1 =>
          simp only [Res.bind, ho] at h
          cases hm : moreL one e n r1 with
          | bad l => rw [hm] at h; cases h
          | ok ys r2 =>
            rw [hm] at h
            cases h
            rw [hs, h1.bwd _ _ _ ho, more_bwd h1 e n _ _ _ hm]
            simp
theorem list_fwd (h1 : Rt one pr) (hlen : ∀ x, 1 ≤ (pr x).length) (e : UInt8) (he : ¬ e = 44) (none : Bool) (xs : List α) (s : List UInt8) (hn : none = true ∨ xs ≠ []) (hh : none = true → ∀ x, (pr x).head? ≠ some e) : listL one e none (commaL (xs.map pr) ++ e :: s) = .ok xs s := by
  cases xs with
  | nil =>
    have : none = true := hn.elim id (fun h => absurd rfl h)
    rw [listL, if_pos ⟨this, by simp [commaL]⟩]
    simp [commaL]
  | cons x xs =>
    have hhd : ¬ (none = true ∧ (commaL ((x :: xs).map pr) ++ e :: s).head? = some e) := by
      rintro ⟨h, h2⟩
      have h3 := hh h x
      have h4 := hlen x
      cases hp : pr x with
      | nil => rw [hp] at h4; simp at h4
      | cons y l =>
        rw [List.map_cons, commaL, hp] at h2
        rw [hp] at h3
        exact h3 (by simpa using h2)
    rw [listL, if_neg hhd, List.map_cons, commaL, List.append_assoc, h1.fwd]
    simp only [Res.bind]
    rw [more_fwd h1 e he xs _ s ?_]
    · rfl
    · rw [List.length_append]
      have : xs.length ≤ ((xs.map pr).flatMap (44 :: ·)).length := by
        clear hn hh hhd
        induction xs with
        | nil => simp
        | cons y ys ih => rw [List.map_cons, List.flatMap_cons, List.length_append]; simp only [List.length_cons]; omega
      omega
theorem list_bwd (h1 : Rt one pr) (e : UInt8) (none : Bool) (t : List UInt8) (xs : List α) (s : List UInt8) (h : listL one e none t = .ok xs s) : t = commaL (xs.map pr) ++ e :: s := by
  rw [listL] at h
  split at h
  · rename_i h0
    cases h
    cases t with
    | nil => cases h0.2
    | cons y t =>
      have : y = e := by simpa using h0.2
      subst this; rfl
  · cases ho : one t with
    | bad l => rw [ho] at h; cases h
    | ok x r1 =>
      simp only [Res.bind, ho] at h
      cases hm : moreL one e (r1.length + 1) r1 with
      | bad l => rw [hm] at h; cases h
      | ok ys r2 =>
        rw [hm] at h
        cases h
        rw [h1.bwd _ _ _ ho, more_bwd h1 e _ _ _ _ hm, List.map_cons, commaL, List.append_assoc]
end
theorem quoteB_head (b : ByteArray) : (quoteB b).head? = some 34 := rfl
theorem quoteB_len (b : ByteArray) : 1 ≤ (quoteB b).length := by show 1 ≤ (34 :: _ : List UInt8).length; simp
theorem Rt.step : Rt stepB stepP := by
  refine ⟨fun x s => ?_, fun t x s h => ?_⟩
  · have e : stepP x ++ s = [40] ++ (commaL ((x.f0 :: x.f1).map quoteB) ++ 41 :: s) := by simp [stepP]
    unfold stepB wordsL
    rw [e, word_fwd]
    simp only [Res.bind]
    rw [list_fwd Rt.strB quoteB_len 41 (by decide) false _ s (.inr (by simp)) (by simp)]
    rfl
  · unfold stepB at h
    cases hw : wordsL t with
    | bad l => rw [hw] at h; cases h
    | ok l r =>
      rw [hw] at h
      cases h
      obtain ⟨_, y, ys, rfl⟩ := wordsL_some _ _ _ hw
      unfold wordsL at hw
      cases hv : wordL [40] t with
      | bad l => rw [hv] at hw; cases hw
      | ok u r0 =>
        have hs := wordL_len _ _ _ hv
        rw [hv] at hw
        rw [hs, list_bwd Rt.strB 41 false r0 _ s hw]
        simp [stepP]
theorem Rt.steps : Rt stepsL (fun xs => [91] ++ (commaL (xs.map stepP) ++ [93])) := by
  refine ⟨fun x s => ?_, fun t x s h => ?_⟩
  · unfold stepsL
    have e : ([91] ++ (commaL (x.map stepP) ++ [93])) ++ s = [91] ++ (commaL (x.map stepP) ++ 93 :: s) := by simp
    rw [e, word_fwd]
    simp only [Res.bind]
    exact list_fwd Rt.step (fun x => by simp [stepP]) 93 (by decide) true _ s (.inl rfl) (fun _ x => by simp [stepP])
  · unfold stepsL at h
    cases hv : wordL [91] t with
    | bad l => rw [hv] at h; cases h
    | ok u r0 =>
      have hs := wordL_len _ _ _ hv
      rw [hv] at h
      rw [hs, list_bwd Rt.step 93 true r0 _ s h]
      simp
theorem Rt.deps : Rt (fun s => (wordL [91] s).bind fun _ r => listL Rc.strB 93 true r) (fun xs => [91] ++ (commaL (xs.map quoteB) ++ [93])) := by
  refine ⟨fun x s => ?_, fun t x s h => ?_⟩
  · have e : ([91] ++ (commaL (x.map quoteB) ++ [93])) ++ s = [91] ++ (commaL (x.map quoteB) ++ 93 :: s) := by simp
    rw [e, word_fwd]
    simp only [Res.bind]
    exact list_fwd Rt.strB quoteB_len 93 (by decide) true _ s (.inl rfl) (fun _ x => by rw [quoteB_head]; decide)
  · cases hv : wordL [91] t with
    | bad l => simp only [hv, Res.bind] at h; cases h
    | ok u r0 =>
      have hs := wordL_len _ _ _ hv
      simp only [hv, Res.bind] at h
      rw [hs, list_bwd Rt.strB 93 true r0 _ s h]
      simp
theorem Rt.word (w : List UInt8) : Rt (wordL w) (fun _ => w) := ⟨fun x s => word_fwd w s, fun t x s h => wordL_len _ _ _ h⟩
theorem Rt.inner : Rt parseI printL := by
  refine ⟨fun x s => ?_, fun t x s h => ?_⟩
  · obtain ⟨nm, deps, steps⟩ := x
    have e : printL (nm, deps, steps) ++ s = [82, 101, 99, 105, 112, 101, 40] ++ (quoteB nm ++ ([44] ++ (([91] ++ (commaL (deps.map quoteB) ++ [93])) ++ ([44] ++ (([91] ++ (commaL (steps.map stepP) ++ [93])) ++ ([41] ++ s)))))) := by simp [printL]
    have hd := Rt.deps.fwd deps ([44] ++ (([91] ++ (commaL (steps.map stepP) ++ [93])) ++ ([41] ++ s)))
    have hs := Rt.steps.fwd steps ([41] ++ s)
    have bok : ∀ {α β : Type} (x : α) (s : List UInt8) (f : α → List UInt8 → Res β), (Res.ok x s).bind f = f x s := fun _ _ _ => rfl
    unfold parseI
    rw [e]
    simp only [word_fwd, bok, Rt.strB.fwd]
    rw [hd]
    simp only [word_fwd, bok]
    rw [hs]
    simp only [word_fwd, bok]
  · unfold parseI at h
    cases h1 : wordL [82, 101, 99, 105, 112, 101, 40] t with
    | bad l => simp only [h1, Res.bind] at h; cases h
    | ok u1 r1 =>
      simp only [h1, Res.bind] at h
      cases h2 : Rc.strB r1 with
      | bad l => simp only [h2] at h; cases h
      | ok nm r2 =>
        simp only [h2] at h
        cases h3 : wordL [44] r2 with
        | bad l => simp only [h3] at h; cases h
        | ok u3 r3 =>
          simp only [h3] at h
          cases h4 : (wordL [91] r3).bind (fun _ r => listL Rc.strB 93 true r) with
          | bad l => have h4' := h4; simp only [Res.bind] at h4'; simp only [h4'] at h; cases h
          | ok deps r4 =>
            have h4' := h4
            simp only [Res.bind] at h4'
            simp only [h4'] at h
            cases h5 : wordL [44] r4 with
            | bad l => simp only [h5] at h; cases h
            | ok u5 r5 =>
              simp only [h5] at h
              cases h6 : stepsL r5 with
              | bad l => simp only [h6] at h; cases h
              | ok steps r6 =>
                simp only [h6] at h
                cases h7 : wordL [41] r6 with
                | bad l => simp only [h7] at h; cases h
                | ok u7 r7 =>
                  simp only [h7] at h
                  cases h
                  rw [wordL_len _ _ _ h1, Rt.strB.bwd _ _ _ h2, wordL_len _ _ _ h3, Rt.deps.bwd _ _ _ h4, wordL_len _ _ _ h5, Rt.steps.bwd _ _ _ h6, wordL_len _ _ _ h7]
                  simp [printL]
/-- What is printed is read again. -/
theorem parse_print (x : ByteArray × List ByteArray × List S47) : parseL (printL x) = .ok x [] := by
  have h := Rt.inner.fwd x []
  rw [List.append_nil] at h
  rw [parseL_inner, h]
  rfl
/-- What is read is what would be printed. -/
theorem print_parse (t : List UInt8) (x : ByteArray × List ByteArray × List S47) (r : List UInt8) (h : parseL t = .ok x r) : printL x = t ∧ r = [] := by
  rw [parseL_inner] at h
  cases hp : parseI t with
  | bad l' => rw [hp] at h; cases h
  | ok y s =>
    rw [hp] at h
    simp only [Res.bind] at h
    split at h
    · rename_i hr
      cases h
      have := Rt.inner.bwd t x s hp
      rw [hr, List.append_nil] at this
      exact ⟨this.symm, rfl⟩
    · cases h
end Go.Proofs.Ytdkkgeibifpgiaa.Rc
