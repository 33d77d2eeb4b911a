/- The recipe's reader as plain Lean: it looks no further than it must (Lo). -/
import Derived.Test.YtdkkgeibifpgiaaRcParse
import Derived.Test.YtdkkgeibifpgiaaRcFuel
namespace Go.Proofs.Ytdkkgeibifpgiaa.Rc
open Go.RowKit Go.Proofs.YtdkkgeibifpgiaaW.PrintWords Go.Proofs.Ytdkkgeibifpgiaa.Bytes Go.Proofs.Ytdkkgeibifpgiaa.Q
set_option linter.unusedVariables false
set_option linter.unusedSimpArgs false

/-- A reader that looks no further than it must: what it took it takes whatever follows, less than that ends at its own end; and where it broke, it breaks at its own end when cut there. -/
structure Lo {α : Type} (P : List UInt8 → Res α) : Prop where
  ok : ∀ t x s, P t = .ok x s → ∃ u, t = u ++ s ∧ (∀ s', P (u ++ s') = .ok x s') ∧ (∀ k, k < u.length → P (u.take k) = .bad 0)
  bad : ∀ t l, P t = .bad l → ∃ u v, t = u ++ v ∧ v.length = l ∧ P u = .bad 0
theorem Lo.bind {α β : Type} {P : List UInt8 → Res α} {Q : α → List UInt8 → Res β} (hP : Lo P) (hQ : ∀ x, Lo (Q x)) : Lo (fun t => (P t).bind Q) := by
  refine ⟨fun t y s h => ?_, fun t l h => ?_⟩
  · cases hp : P t with
    | bad l => simp only [hp, Res.bind] at h; cases h
    | ok x r =>
      simp only [hp, Res.bind] at h
      obtain ⟨u, rfl, hu, hk⟩ := hP.ok t x r hp
      obtain ⟨u2, rfl, hu2, hk2⟩ := (hQ x).ok r y s h
      refine ⟨u ++ u2, by rw [List.append_assoc], fun s' => ?_, fun k hlt => ?_⟩
      · simp only [List.append_assoc, hu, Res.bind, hu2]
      · rw [List.length_append] at hlt
        by_cases h1 : k < u.length
        · simp only [List.take_append_of_le_length (Nat.le_of_lt h1), hk k h1, Res.bind]
        · have e : (u ++ u2).take k = u ++ u2.take (k - u.length) := by rw [List.take_append, List.take_of_length_le (by omega)]
          simp only [e, hu, Res.bind, hk2 (k - u.length) (by omega)]
  · cases hp : P t with
    | bad l' =>
      simp only [hp, Res.bind] at h
      cases h
      obtain ⟨u, v, h1, h2, h3⟩ := hP.bad t _ hp
      exact ⟨u, v, h1, h2, by simp only [h3, Res.bind]⟩
    | ok x r =>
      simp only [hp, Res.bind] at h
      obtain ⟨u, rfl, hu, _⟩ := hP.ok t x r hp
      obtain ⟨u2, v, rfl, h2, h3⟩ := (hQ x).bad r l h
      exact ⟨u ++ u2, v, by rw [List.append_assoc], h2, by simp only [hu, Res.bind, h3]⟩
theorem Lo.pure {α : Type} (x : α) : Lo (fun t => Res.ok x t) :=
  ⟨fun t y s h => by cases h; exact ⟨[], rfl, fun _ => rfl, fun k hk => by simp at hk⟩, fun t l h => by cases h⟩
theorem Lo.map {α β : Type} {P : List UInt8 → Res α} (f : α → β) (hP : Lo P) : Lo (fun t => (P t).map f) := by
  have e : (fun t => (P t).map f) = (fun t => (P t).bind fun x r => .ok (f x) r) := by funext t; cases P t <;> rfl
  rw [e]
  exact hP.bind fun x => Lo.pure (f x)
theorem Lo.word : ∀ w : List UInt8, Lo (wordL w)
  | [] => Lo.pure ()
  | c :: w => by
    have ih := Lo.word w
    refine ⟨fun t y s h => ?_, fun t l h => ?_⟩
    · cases t with
      | nil => cases h
      | cons x t =>
        rw [wordL] at h
        split at h
        · rename_i e
          subst e
          obtain ⟨u, rfl, hu, hk⟩ := ih.ok t y s h
          refine ⟨x :: u, rfl, fun s' => ?_, fun k hlt => ?_⟩
          · rw [List.cons_append, wordL, if_pos rfl, hu]
          · cases k with
            | zero => rfl
            | succ k => rw [List.take_succ_cons, wordL, if_pos rfl, hk k (by simpa using hlt)]
        · cases h
    · cases t with
      | nil => cases h; exact ⟨[], [], rfl, rfl, rfl⟩
      | cons x t =>
        rw [wordL] at h
        split at h
        · rename_i e
          subst e
          obtain ⟨u, v, rfl, h2, h3⟩ := ih.bad t l h
          exact ⟨x :: u, v, rfl, h2, by rw [wordL, if_pos rfl, h3]⟩
        · cases h
          exact ⟨[], x :: t, rfl, rfl, rfl⟩
theorem strBody_ok : ∀ (n : Nat) (t : List UInt8), t.length ≤ n → ∀ l s, strBody t = .ok l s → ∃ u, t = u ++ s ∧ (∀ s', strBody (u ++ s') = .ok l s') ∧ (∀ k, k < u.length → strBody (u.take k) = .bad 0)
  | _, [], _, l, s, h => by cases h
  | 0, y :: s, hn, _, _, h => by simp at hn
  | n + 1, x :: t, hn, l, s, h => by
    have hn' : t.length ≤ n := by simpa using hn
    rw [strBody_cons] at h
    by_cases e1 : x = 34
    · rw [if_pos e1] at h
      cases h
      refine ⟨[x], rfl, fun s' => by rw [List.singleton_append, strBody_cons, if_pos e1], fun k hk => ?_⟩
      have : k = 0 := by simpa using hk
      subst this; rfl
    · rw [if_neg e1] at h
      by_cases e2 : x = 10 ∨ x = 9
      · rw [if_pos e2] at h; cases h
      · rw [if_neg e2] at h
        by_cases e3 : x = 92
        · rw [if_pos e3] at h
          cases t with
          | nil => cases h
          | cons y t =>
            simp only at h
            cases hy : esc y with
            | none => rw [hy] at h; cases h
            | some c =>
              rw [hy] at h
              cases hb : strBody t with
              | bad l2 => rw [hb] at h; cases h
              | ok x2 r2 =>
                rw [hb] at h
                cases h
                obtain ⟨u, rfl, hu, hk⟩ := strBody_ok n t (by simp at hn'; omega) _ _ hb
                refine ⟨x :: y :: u, rfl, fun s' => ?_, fun k hlt => ?_⟩
                · rw [List.cons_append, List.cons_append, strBody_cons, if_neg e1, if_neg e2, if_pos e3]
                  simp only [hy, hu, Res.map]
                · match k, hlt with
                  | 0, _ => rfl
                  | 1, _ =>
                    show strBody [x] = _
                    rw [strBody_cons, if_neg e1, if_neg e2, if_pos e3]
                  | k + 2, hlt =>
                    show strBody (x :: y :: u.take k) = _
                    rw [strBody_cons, if_neg e1, if_neg e2, if_pos e3]
                    simp only [hy, hk k (by simp at hlt; omega), Res.map]
        · rw [if_neg e3] at h
          cases hb : strBody t with
          | bad l2 => rw [hb] at h; cases h
          | ok x2 r2 =>
            rw [hb] at h
            cases h
            obtain ⟨u, rfl, hu, hk⟩ := strBody_ok n t hn' _ _ hb
            refine ⟨x :: u, rfl, fun s' => ?_, fun k hlt => ?_⟩
            · rw [List.cons_append, strBody_cons, if_neg e1, if_neg e2, if_neg e3, hu]
              rfl
            · match k, hlt with
              | 0, _ => rfl
              | k + 1, hlt =>
                show strBody (x :: u.take k) = _
                rw [strBody_cons, if_neg e1, if_neg e2, if_neg e3, hk k (by simp at hlt; omega)]
                rfl
theorem strBody_bad : ∀ (n : Nat) (t : List UInt8), t.length ≤ n → ∀ l, strBody t = .bad l → ∃ u v, t = u ++ v ∧ v.length = l ∧ strBody u = .bad 0
  | _, [], _, l, h => by cases h; exact ⟨[], [], rfl, rfl, rfl⟩
  | 0, y :: s, hn, _, h => by simp at hn
  | n + 1, x :: t, hn, l, h => by
    have hn' : t.length ≤ n := by simpa using hn
    rw [strBody_cons] at h
    by_cases e1 : x = 34
    · rw [if_pos e1] at h; cases h
    · rw [if_neg e1] at h
      by_cases e2 : x = 10 ∨ x = 9
      · rw [if_pos e2] at h
        cases h
        exact ⟨[], x :: t, rfl, rfl, rfl⟩
      · rw [if_neg e2] at h
        by_cases e3 : x = 92
        · rw [if_pos e3] at h
          have e0 : strBody [x] = .bad 0 := by rw [strBody_cons, if_neg e1, if_neg e2, if_pos e3]
          cases t with
          | nil => cases h; exact ⟨[x], [], rfl, rfl, e0⟩
          | cons y t =>
            simp only at h
            cases hy : esc y with
            | none => rw [hy] at h; cases h; exact ⟨[x], y :: t, rfl, rfl, e0⟩
            | some c =>
              rw [hy] at h
              cases hb : strBody t with
              | ok x2 r2 => rw [hb] at h; cases h
              | bad l2 =>
                rw [hb] at h
                cases h
                obtain ⟨u, v, rfl, h2, h3⟩ := strBody_bad n t (by simp at hn'; omega) _ hb
                refine ⟨x :: y :: u, v, rfl, h2, ?_⟩
                rw [strBody_cons, if_neg e1, if_neg e2, if_pos e3]
                simp only [hy, h3, Res.map]
        · rw [if_neg e3] at h
          cases hb : strBody t with
          | ok x2 r2 => rw [hb] at h; cases h
          | bad l2 =>
            rw [hb] at h
            cases h
            obtain ⟨u, v, rfl, h2, h3⟩ := strBody_bad n t hn' _ hb
            exact ⟨x :: u, v, rfl, h2, by rw [strBody_cons, if_neg e1, if_neg e2, if_neg e3, h3]; rfl⟩
theorem Lo.str : Lo strL := by
  have e : strL = fun t => (wordL [34] t).bind fun _ r => strBody r := by funext t; rfl
  rw [e]
  exact (Lo.word [34]).bind fun _ => ⟨fun t x s h => strBody_ok _ t (Nat.le_refl _) x s h, fun t l h => strBody_bad _ t (Nat.le_refl _) l h⟩
theorem Lo.strB : Lo strB := Lo.map _ Lo.str
/-- One byte that ends it, or more. -/
theorem Lo.alt {α : Type} {P : List UInt8 → Res α} (a : α) (e : UInt8) (hP : Lo P) (h0 : P [] = .bad 0) : Lo (fun s => if s.head? = some e then .ok a (s.drop 1) else P s) := by
  refine ⟨fun t x s h => ?_, fun t l h => ?_⟩
  · by_cases hh : t.head? = some e
    · simp only [if_pos hh] at h
      cases h
      cases t with
      | nil => cases hh
      | cons y t =>
        have : y = e := by simpa using hh
        subst this
        refine ⟨[y], rfl, fun s' => by simp, fun k hk => ?_⟩
        have : k = 0 := by simpa using hk
        subst this
        simpa using h0
    · simp only [if_neg hh] at h
      obtain ⟨u, rfl, hu, hk⟩ := hP.ok t x s h
      cases u with
      | nil => have := hu []; rw [List.append_nil, h0] at this; cases this
      | cons y u =>
        have hy : ¬ y = e := by simpa using hh
        refine ⟨y :: u, rfl, fun s' => ?_, fun k hlt => ?_⟩
        · rw [if_neg (by simpa using hy), hu]
        · cases k with
          | zero => simpa using h0
          | succ k => rw [if_neg (by simpa using hy), hk _ hlt]
  · by_cases hh : t.head? = some e
    · simp only [if_pos hh] at h; cases h
    · simp only [if_neg hh] at h
      obtain ⟨u, v, rfl, h2, h3⟩ := hP.bad t l h
      refine ⟨u, v, rfl, h2, ?_⟩
      cases u with
      | nil => simpa using h0
      | cons y u => rw [if_neg (by simpa using hh), h3]
theorem Lo.more {α : Type} {one : List UInt8 → Res α} (h1 : Lo one) (e : UInt8) : ∀ n, Lo (moreL one e n)
  | 0 => ⟨fun t x s h => (by cases h), fun t l h => (by cases h; exact ⟨[], t, rfl, rfl, rfl⟩)⟩
  | n + 1 => by
    have ih := Lo.more h1 e n
    have ee : moreL one e (n + 1) = fun s => if s.head? = some e then .ok [] (s.drop 1) else (wordL [44] s).bind fun _ r => (one r).bind fun x r2 => (moreL one e n r2).map (x :: ·) := by funext s; rw [moreL]
    rw [ee]
    exact Lo.alt [] e ((Lo.word [44]).bind fun _ => h1.bind fun x => Lo.map (x :: ·) ih) rfl
/-- Things up to the closing byte, with fuel as they need it. -/
theorem Lo.mores {α : Type} {one : List UInt8 → Res α} (h1 : Lo one) (hone : ∀ s x r, one s = .ok x r → r.length < s.length) (e : UInt8) : Lo (fun r => moreL one e (r.length + 1) r) := by
  refine ⟨fun t x s h => ?_, fun t l h => ?_⟩
  · obtain ⟨u, rfl, _, hk⟩ := (Lo.more h1 e (t.length + 1)).ok t x s h
    refine ⟨u, rfl, fun s' => ?_, fun k hlt => ?_⟩
    · have hN := moreL_fuel one hone e ((u ++ s).length + 1) ((u ++ s).length + s'.length + 1) (u ++ s) (by omega) (by omega)
      obtain ⟨u2, h2, hu2, _⟩ := (Lo.more h1 e ((u ++ s).length + s'.length + 1)).ok (u ++ s) x s (hN.symm.trans h)
      obtain rfl := List.append_cancel_right h2
      rw [moreL_fuel one hone e ((u ++ s').length + 1) ((u ++ s).length + s'.length + 1) (u ++ s') (by omega) (by simp; omega)]
      exact hu2 s'
    · rw [moreL_fuel one hone e ((u.take k).length + 1) ((u ++ s).length + 1) (u.take k) (by omega) (by simp; omega)]
      exact hk k hlt
  · obtain ⟨u, v, rfl, h2, h3⟩ := (Lo.more h1 e (t.length + 1)).bad t l h
    refine ⟨u, v, rfl, h2, ?_⟩
    rw [moreL_fuel one hone e (u.length + 1) ((u ++ v).length + 1) u (by omega) (by simp; omega)]
    exact h3
theorem Lo.list {α : Type} {one : List UInt8 → Res α} (h1 : Lo one) (h0 : one [] = .bad 0) (hone : ∀ s x r, one s = .ok x r → r.length < s.length) (e : UInt8) (none : Bool) : Lo (listL one e none) := by
  have hB : Lo (fun s => (one s).bind fun x r => (moreL one e (r.length + 1) r).map (x :: ·)) := h1.bind fun x => Lo.map (x :: ·) (Lo.mores h1 hone e)
  cases none with
  | false =>
    have ee : listL one e false = fun s => (one s).bind fun x r => (moreL one e (r.length + 1) r).map (x :: ·) := by funext s; rw [listL, if_neg (by simp)]
    rw [ee]; exact hB
  | true =>
    have ee : listL one e true = fun s => if s.head? = some e then .ok [] (s.drop 1) else (one s).bind fun x r => (moreL one e (r.length + 1) r).map (x :: ·) := by
      funext s
      rw [listL]
      by_cases hh : s.head? = some e
      · rw [if_pos ⟨rfl, hh⟩, if_pos hh]
      · rw [if_neg (fun h => hh h.2), if_neg hh]
    rw [ee]
    exact Lo.alt [] e hB (by simp only [h0, Res.bind])
theorem Lo.step : Lo stepB := by
  have e : stepB = fun s => (wordsL s).map (fun l => (⟨l.headD ⟨#[]⟩, l.tail⟩ : S47)) := by funext s; rfl
  have e2 : wordsL = fun s => (wordL [40] s).bind fun _ r => listL Rc.strB 41 false r := by funext s; rfl
  rw [e, e2]
  exact Lo.map _ ((Lo.word [40]).bind fun _ => Lo.list Lo.strB rfl strB_prog 41 false)
theorem Lo.steps : Lo stepsL := by
  have e : stepsL = fun s => (wordL [91] s).bind fun _ r => listL stepB 93 true r := by funext s; rfl
  rw [e]
  exact (Lo.word [91]).bind fun _ => Lo.list Lo.step rfl stepB_prog 93 true
/-- What Parse computes, up to its end. -/
def parseI (s : List UInt8) : Res (ByteArray × List ByteArray × List S47) :=
  (wordL [82, 101, 99, 105, 112, 101, 40] s).bind fun _ r1 => (strB r1).bind fun nm r2 => (wordL [44] r2).bind fun _ r3 => ((wordL [91] r3).bind fun _ r => listL strB 93 true r).bind fun deps r4 => (wordL [44] r4).bind fun _ r5 =>
    (stepsL r5).bind fun steps r6 => (wordL [41] r6).bind fun _ r7 => .ok (nm, deps, steps) r7
theorem Lo.inner : Lo parseI := by
  have e : parseI = fun s => (wordL [82, 101, 99, 105, 112, 101, 40] s).bind fun _ r1 => (Rc.strB r1).bind fun nm r2 => (wordL [44] r2).bind fun _ r3 => ((wordL [91] r3).bind fun _ r => listL Rc.strB 93 true r).bind fun deps r4 => (wordL [44] r4).bind fun _ r5 =>
    (stepsL r5).bind fun steps r6 => (wordL [41] r6).bind fun _ r7 => .ok (nm, deps, steps) r7 := by funext s; rfl
  rw [e]
  exact (Lo.word _).bind fun _ => Lo.strB.bind fun nm => (Lo.word _).bind fun _ => ((Lo.word _).bind fun _ => Lo.list Lo.strB rfl strB_prog 93 true).bind fun deps => (Lo.word _).bind fun _ => Lo.steps.bind fun steps => (Lo.word _).bind fun _ => Lo.pure _
theorem Res.bind_assoc {α β γ : Type} (r : Res α) (f : α → List UInt8 → Res β) (g : β → List UInt8 → Res γ) : (r.bind f).bind g = r.bind fun x s => (f x s).bind g := by cases r <;> rfl
/-- A recipe's text and nothing behind it. -/
theorem parseL_inner (s : List UInt8) : parseL s = (parseI s).bind fun x r => if r = [] then .ok x [] else .bad r.length := by
  unfold parseL parseI
  simp only [Res.bind_assoc]
  rfl
/-- Where a text is broken, all ahead of it goes on to a recipe. -/
theorem parse_first (t : List UInt8) (l : Nat) (h : parseL t = .bad l) : l ≤ t.length ∧ ((∃ x, parseL (t.take (t.length - l)) = .ok x []) ∨ parseL (t.take (t.length - l)) = .bad 0) := by
  rw [parseL_inner] at h
  have cut : ∀ u v : List UInt8, v.length = l → t = u ++ v → l ≤ t.length ∧ t.take (t.length - l) = u := by
    rintro u v rfl rfl
    refine ⟨by simp, ?_⟩
    rw [List.length_append, Nat.add_sub_cancel, List.take_left]
  cases hp : parseI t with
  | bad l' =>
    rw [hp] at h
    cases h
    obtain ⟨u, v, h1, h2, h3⟩ := Lo.inner.bad t l hp
    obtain ⟨a, b⟩ := cut u v h2 h1
    exact ⟨a, .inr (by rw [b, parseL_inner, h3]; rfl)⟩
  | ok x r =>
    rw [hp] at h
    simp only [Res.bind] at h
    split at h
    · cases h
    · cases h
      obtain ⟨u, h1, h2, _⟩ := Lo.inner.ok t x r hp
      obtain ⟨a, b⟩ := cut u r rfl h1
      refine ⟨a, .inl ⟨x, ?_⟩⟩
      have h3 := h2 []
      rw [List.append_nil] at h3
      rw [b, parseL_inner, h3]
      rfl
/-- A recipe's text cut short, or with more behind it. -/
theorem parse_cut (t : List UInt8) (x : ByteArray × List ByteArray × List S47) (h : parseL t = .ok x []) : (∀ k, k < t.length → parseL (t.take k) = .bad 0) ∧ (∀ m, m ≠ [] → parseL (t ++ m) = .bad m.length) := by
  rw [parseL_inner] at h
  cases hp : parseI t with
  | bad l' => rw [hp] at h; cases h
  | ok y r =>
    rw [hp] at h
    simp only [Res.bind] at h
    split at h
    · rename_i hr
      cases h
      subst hr
      obtain ⟨u, h1, h2, h3⟩ := Lo.inner.ok t x [] hp
      rw [List.append_nil] at h1
      subst h1
      refine ⟨fun k hk => by rw [parseL_inner, h3 k hk]; rfl, fun m hm => ?_⟩
      rw [parseL_inner, h2 m]
      simp only [Res.bind, if_neg hm]
    · cases h
end Go.Proofs.Ytdkkgeibifpgiaa.Rc
