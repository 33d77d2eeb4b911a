/- Texts of this claim, put together: RcFuel, RcLo, RcText, RcPrint, Q21, RcPure, ExtJoin, ExtQuote, Q18, Q19, RcPrintPure, Q30, Q33, Q26, Q27. -/
import Derived.Test.YtdkkgeibifpgiaaRcModel
import Derived.Test.YtdkkgeibifpgiaaRcParse
import Derived.Test.YtdkkgeibifpgiaaQ0
import Derived.Test.YtdkkgeibifpgiaaRcReader
import Derived.Test.YtdkkgeibifpgiaaBytes
import Derived.Test.YtdkkgeibifpgiaaShelf
import Derived.Test.YtdkkgeibifpgiaaRcStr
/- The recipe's reader: fuel. -/
namespace Go.Proofs.Ytdkkgeibifpgiaa.Rc
set_option linter.unusedVariables false
set_option linter.unusedSimpArgs false

theorem moreL_fuel {α : Type} (one : List UInt8 → Res α) (hone : ∀ s x r, one s = .ok x r → r.length < s.length) (e : UInt8) : ∀ (n m : Nat) (s : List UInt8), s.length < n → s.length < m → moreL one e n s = moreL one e m s
  | 0, m, s, hn, hm => by omega
  | n + 1, 0, s, hn, hm => by omega
  | n + 1, m + 1, s, hn, hm => by
    rw [moreL, moreL]
    split
    · rfl
    · cases hw : wordL [44] s with
      | bad l => rfl
      | ok u r =>
        have hs := wordL_len _ _ _ hw
        have hlen : s.length = r.length + 1 := by rw [hs]; simp
        show ((one r).bind fun x r2 => (moreL one e n r2).map (x :: ·)) = ((one r).bind fun x r2 => (moreL one e m r2).map (x :: ·))
        cases ho : one r with
        | bad l => rfl
        | ok x r1 =>
          have h1 := hone _ _ _ ho
          show (moreL one e n r1).map (x :: ·) = (moreL one e m r1).map (x :: ·)
          rw [moreL_fuel one hone e n m r1 (by omega) (by omega)]
end Go.Proofs.Ytdkkgeibifpgiaa.Rc
/- The recipe's reader as plain Lean: it looks no further than it must (Lo). -/
namespace Go.Proofs.Ytdkkgeibifpgiaa.Rc
open Go.RowKit Go.Proofs.YtdkkgeibifpgiaaW.PrintWords Go.Proofs.Ytdkkgeibifpgiaa.Bytes Go.Proofs.Ytdkkgeibifpgiaa.Q
set_option linter.unusedVariables false
set_option linter.unusedSimpArgs false

/-- A reader that looks no further than it must: what it took it takes whatever follows, less than that ends at its own end; and where it broke, it breaks at its own end when cut there. -/
structure Lo {α : Type} (P : List UInt8 → Res α) : Prop where
  ok : ∀ t x s, P t = .ok x s → ∃ u, t = u ++ s ∧ (∀ s', P (u ++ s') = .ok x s') ∧ (∀ k, k < u.length → P (u.take k) = .bad 0)
  bad : ∀ t l, P t = .bad l → ∃ u v, t = u ++ v ∧ v.length = l ∧ P u = .bad 0
theorem Lo.bind {α β : Type} {P : List UInt8 → Res α} {Q : α → List UInt8 → Res β} (hP : Lo P) (hQ : ∀ x, Lo (Q x)) : Lo (fun t => (P t).bind Q) := by
  refine ⟨fun t y s h => ?_, fun t l h => ?_⟩
  · cases hp : P t with
    | bad l => simp only [hp, Res.bind] at h; cases h
    | ok x r =>
      simp only [hp, Res.bind] at h
      obtain ⟨u, rfl, hu, hk⟩ := hP.ok t x r hp
      obtain ⟨u2, rfl, hu2, hk2⟩ := (hQ x).ok r y s h
      refine ⟨u ++ u2, by rw [List.append_assoc], fun s' => ?_, fun k hlt => ?_⟩
      · simp only [List.append_assoc, hu, Res.bind, hu2]
      · rw [List.length_append] at hlt
        by_cases h1 : k < u.length
        · simp only [List.take_append_of_le_length (Nat.le_of_lt h1), hk k h1, Res.bind]
        · have e : (u ++ u2).take k = u ++ u2.take (k - u.length) := by rw [List.take_append, List.take_of_length_le (by omega)]
          simp only [e, hu, Res.bind, hk2 (k - u.length) (by omega)]
  · cases hp : P t with
    | bad l' =>
      simp only [hp, Res.bind] at h
      cases h
      obtain ⟨u, v, h1, h2, h3⟩ := hP.bad t _ hp
      exact ⟨u, v, h1, h2, by simp only [h3, Res.bind]⟩
    | ok x r =>
      simp only [hp, Res.bind] at h
      obtain ⟨u, rfl, hu, _⟩ := hP.ok t x r hp
      obtain ⟨u2, v, rfl, h2, h3⟩ := (hQ x).bad r l h
      exact ⟨u ++ u2, v, by rw [List.append_assoc], h2, by simp only [hu, Res.bind, h3]⟩
theorem Lo.pure {α : Type} (x : α) : Lo (fun t => Res.ok x t) :=
  ⟨fun t y s h => by cases h; exact ⟨[], rfl, fun _ => rfl, fun k hk => by simp at hk⟩, fun t l h => by cases h⟩
theorem Lo.map {α β : Type} {P : List UInt8 → Res α} (f : α → β) (hP : Lo P) : Lo (fun t => (P t).map f) := by
  have e : (fun t => (P t).map f) = (fun t => (P t).bind fun x r => .ok (f x) r) := by funext t; cases P t <;> rfl
  rw [e]
  exact hP.bind fun x => Lo.pure (f x)
theorem Lo.word : ∀ w : List UInt8, Lo (wordL w)
  | [] => Lo.pure ()
  | c :: w => by
    have ih := Lo.word w
    refine ⟨fun t y s h => ?_, fun t l h => ?_⟩
    · cases t with
      | nil => cases h
      | cons x t =>
        rw [wordL] at h
        split at h
        · rename_i e
          subst e
          obtain ⟨u, rfl, hu, hk⟩ := ih.ok t y s h
          refine ⟨x :: u, rfl, fun s' => ?_, fun k hlt => ?_⟩
          · rw [List.cons_append, wordL, if_pos rfl, hu]
          · cases k with
            | zero => rfl
            | succ k => rw [List.take_succ_cons, wordL, if_pos rfl, hk k (by simpa using hlt)]
        · cases h
    · cases t with
      | nil => cases h; exact ⟨[], [], rfl, rfl, rfl⟩
      | cons x t =>
        rw [wordL] at h
        split at h
        · rename_i e
          subst e
          obtain ⟨u, v, rfl, h2, h3⟩ := ih.bad t l h
          exact ⟨x :: u, v, rfl, h2, by rw [wordL, if_pos rfl, h3]⟩
        · cases h
          exact ⟨[], x :: t, rfl, rfl, rfl⟩
theorem strBody_ok : ∀ (n : Nat) (t : List UInt8), t.length ≤ n → ∀ l s, strBody t = .ok l s → ∃ u, t = u ++ s ∧ (∀ s', strBody (u ++ s') = .ok l s') ∧ (∀ k, k < u.length → strBody (u.take k) = .bad 0)
  | _, [], _, l, s, h => by cases h
  | 0, y :: s, hn, _, _, h => by simp at hn
  | n + 1, x :: t, hn, l, s, h => by
    have hn' : t.length ≤ n := by simpa using hn
    rw [strBody_cons] at h
    by_cases e1 : x = 34
    · rw [if_pos e1] at h
      cases h
      refine ⟨[x], rfl, fun s' => by rw [List.singleton_append, strBody_cons, if_pos e1], fun k hk => ?_⟩
      have : k = 0 := by simpa using hk
      subst this; rfl
    · rw [if_neg e1] at h
      by_cases e2 : x = 10 ∨ x = 9
      · rw [if_pos e2] at h; cases h
      · rw [if_neg e2] at h
        by_cases e3 : x = 92
        · rw [if_pos e3] at h
          cases t with
          | nil => cases h
          | cons y t =>
            simp only at h
            cases hy : esc y with
            | none => rw [hy] at h; cases h
            | some c =>
              rw [hy] at h
              cases hb : strBody t with
              | bad l2 => rw [hb] at h; cases h
              | ok x2 r2 =>
                rw [hb] at h
                cases h
                obtain ⟨u, rfl, hu, hk⟩ := strBody_ok n t (by simp at hn'; omega) _ _ hb
                refine ⟨x :: y :: u, rfl, fun s' => ?_, fun k hlt => ?_⟩
                · rw [List.cons_append, List.cons_append, strBody_cons, if_neg e1, if_neg e2, if_pos e3]
                  simp only [hy, hu, Res.map]
                · match k, hlt with
                  | 0, _ => rfl
                  | 1, _ =>
                    show strBody [x] = _
                    rw [strBody_cons, if_neg e1, if_neg e2, if_pos e3]
                  | k + 2, hlt =>
                    show strBody (x :: y :: u.take k) = _
                    rw [strBody_cons, if_neg e1, if_neg e2, if_pos e3]
                    simp only [hy, hk k (by simp at hlt; omega), Res.map]
        · rw [if_neg e3] at h
          cases hb : strBody t with
          | bad l2 => rw [hb] at h; cases h
          | ok x2 r2 =>
            rw [hb] at h
            cases h
            obtain ⟨u, rfl, hu, hk⟩ := strBody_ok n t hn' _ _ hb
            refine ⟨x :: u, rfl, fun s' => ?_, fun k hlt => ?_⟩
            · rw [List.cons_append, strBody_cons, if_neg e1, if_neg e2, if_neg e3, hu]
              rfl
            · match k, hlt with
              | 0, _ => rfl
              | k + 1, hlt =>
                show strBody (x :: u.take k) = _
                rw [strBody_cons, if_neg e1, if_neg e2, if_neg e3, hk k (by simp at hlt; omega)]
                rfl
theorem strBody_bad : ∀ (n : Nat) (t : List UInt8), t.length ≤ n → ∀ l, strBody t = .bad l → ∃ u v, t = u ++ v ∧ v.length = l ∧ strBody u = .bad 0
  | _, [], _, l, h => by cases h; exact ⟨[], [], rfl, rfl, rfl⟩
  | 0, y :: s, hn, _, h => by simp at hn
  | n + 1, x :: t, hn, l, h => by
    have hn' : t.length ≤ n := by simpa using hn
    rw [strBody_cons] at h
    by_cases e1 : x = 34
    · rw [if_pos e1] at h; cases h
    · rw [if_neg e1] at h
      by_cases e2 : x = 10 ∨ x = 9
      · rw [if_pos e2] at h
        cases h
        exact ⟨[], x :: t, rfl, rfl, rfl⟩
      · rw [if_neg e2] at h
        by_cases e3 : x = 92
        · rw [if_pos e3] at h
          have e0 : strBody [x] = .bad 0 := by rw [strBody_cons, if_neg e1, if_neg e2, if_pos e3]
          cases t with
          | nil => cases h; exact ⟨[x], [], rfl, rfl, e0⟩
          | cons y t =>
            simp only at h
            cases hy : esc y with
            | none => rw [hy] at h; cases h; exact ⟨[x], y :: t, rfl, rfl, e0⟩
            | some c =>
              rw [hy] at h
              cases hb : strBody t with
              | ok x2 r2 => rw [hb] at h; cases h
              | bad l2 =>
                rw [hb] at h
                cases h
                obtain ⟨u, v, rfl, h2, h3⟩ := strBody_bad n t (by simp at hn'; omega) _ hb
                refine ⟨x :: y :: u, v, rfl, h2, ?_⟩
                rw [strBody_cons, if_neg e1, if_neg e2, if_pos e3]
                simp only [hy, h3, Res.map]
        · rw [if_neg e3] at h
          cases hb : strBody t with
          | ok x2 r2 => rw [hb] at h; cases h
          | bad l2 =>
            rw [hb] at h
            cases h
            obtain ⟨u, v, rfl, h2, h3⟩ := strBody_bad n t hn' _ hb
            exact ⟨x :: u, v, rfl, h2, by rw [strBody_cons, if_neg e1, if_neg e2, if_neg e3, h3]; rfl⟩
theorem Lo.str : Lo strL := by
  have e : strL = fun t => (wordL [34] t).bind fun _ r => strBody r := by funext t; rfl
  rw [e]
  exact (Lo.word [34]).bind fun _ => ⟨fun t x s h => strBody_ok _ t (Nat.le_refl _) x s h, fun t l h => strBody_bad _ t (Nat.le_refl _) l h⟩
theorem Lo.strB : Lo strB := Lo.map _ Lo.str
/-- One byte that ends it, or more. -/
theorem Lo.alt {α : Type} {P : List UInt8 → Res α} (a : α) (e : UInt8) (hP : Lo P) (h0 : P [] = .bad 0) : Lo (fun s => if s.head? = some e then .ok a (s.drop 1) else P s) := by
  refine ⟨fun t x s h => ?_, fun t l h => ?_⟩
  · by_cases hh : t.head? = some e
    · simp only [if_pos hh] at h
      cases h
      cases t with
      | nil => cases hh
      | cons y t =>
        have : y = e := by simpa using hh
        subst this
        refine ⟨[y], rfl, fun s' => by simp, fun k hk => ?_⟩
        have : k = 0 := by simpa using hk
        subst this
        simpa using h0
    · simp only [if_neg hh] at h
      obtain ⟨u, rfl, hu, hk⟩ := hP.ok t x s h
      cases u with
      | nil => have := hu []; rw [List.append_nil, h0] at this; cases this
      | cons y u =>
        have hy : ¬ y = e := by simpa using hh
        refine ⟨y :: u, rfl, fun s' => ?_, fun k hlt => ?_⟩
        · rw [if_neg (by simpa using hy), hu]
        · cases k with
          | zero => simpa using h0
          | succ k => rw [if_neg (by simpa using hy), hk _ hlt]
  · by_cases hh : t.head? = some e
    · simp only [if_pos hh] at h; cases h
    · simp only [if_neg hh] at h
      obtain ⟨u, v, rfl, h2, h3⟩ := hP.bad t l h
      refine ⟨u, v, rfl, h2, ?_⟩
      cases u with
      | nil => simpa using h0
      | cons y u => rw [if_neg (by simpa using hh), h3]
theorem Lo.more {α : Type} {one : List UInt8 → Res α} (h1 : Lo one) (e : UInt8) : ∀ n, Lo (moreL one e n)
  | 0 => ⟨fun t x s h => (by cases h), fun t l h => (by cases h; exact ⟨[], t, rfl, rfl, rfl⟩)⟩
  | n + 1 => by
    have ih := Lo.more h1 e n
    have ee : moreL one e (n + 1) = fun s => if s.head? = some e then .ok [] (s.drop 1) else (wordL [44] s).bind fun _ r => (one r).bind fun x r2 => (moreL one e n r2).map (x :: ·) := by funext s; rw [moreL]
    rw [ee]
    exact Lo.alt [] e ((Lo.word [44]).bind fun _ => h1.bind fun x => Lo.map (x :: ·) ih) rfl
/-- Things up to the closing byte, with fuel as they need it. -/
theorem Lo.mores {α : Type} {one : List UInt8 → Res α} (h1 : Lo one) (hone : ∀ s x r, one s = .ok x r → r.length < s.length) (e : UInt8) : Lo (fun r => moreL one e (r.length + 1) r) := by
  refine ⟨fun t x s h => ?_, fun t l h => ?_⟩
  · obtain ⟨u, rfl, _, hk⟩ := (Lo.more h1 e (t.length + 1)).ok t x s h
    refine ⟨u, rfl, fun s' => ?_, fun k hlt => ?_⟩
    · have hN := moreL_fuel one hone e ((u ++ s).length + 1) ((u ++ s).length + s'.length + 1) (u ++ s) (by omega) (by omega)
      obtain ⟨u2, h2, hu2, _⟩ := (Lo.more h1 e ((u ++ s).length + s'.length + 1)).ok (u ++ s) x s (hN.symm.trans h)
      obtain rfl := List.append_cancel_right h2
      rw [moreL_fuel one hone e ((u ++ s').length + 1) ((u ++ s).length + s'.length + 1) (u ++ s') (by omega) (by simp; omega)]
      exact hu2 s'
    · rw [moreL_fuel one hone e ((u.take k).length + 1) ((u ++ s).length + 1) (u.take k) (by omega) (by simp; omega)]
      exact hk k hlt
  · obtain ⟨u, v, rfl, h2, h3⟩ := (Lo.more h1 e (t.length + 1)).bad t l h
    refine ⟨u, v, rfl, h2, ?_⟩
    rw [moreL_fuel one hone e (u.length + 1) ((u ++ v).length + 1) u (by omega) (by simp; omega)]
    exact h3
theorem Lo.list {α : Type} {one : List UInt8 → Res α} (h1 : Lo one) (h0 : one [] = .bad 0) (hone : ∀ s x r, one s = .ok x r → r.length < s.length) (e : UInt8) (none : Bool) : Lo (listL one e none) := by
  have hB : Lo (fun s => (one s).bind fun x r => (moreL one e (r.length + 1) r).map (x :: ·)) := h1.bind fun x => Lo.map (x :: ·) (Lo.mores h1 hone e)
  cases none with
  | false =>
    have ee : listL one e false = fun s => (one s).bind fun x r => (moreL one e (r.length + 1) r).map (x :: ·) := by funext s; rw [listL, if_neg (by simp)]
    rw [ee]; exact hB
  | true =>
    have ee : listL one e true = fun s => if s.head? = some e then .ok [] (s.drop 1) else (one s).bind fun x r => (moreL one e (r.length + 1) r).map (x :: ·) := by
      funext s
      rw [listL]
      by_cases hh : s.head? = some e
      · rw [if_pos ⟨rfl, hh⟩, if_pos hh]
      · rw [if_neg (fun h => hh h.2), if_neg hh]
    rw [ee]
    exact Lo.alt [] e hB (by simp only [h0, Res.bind])
theorem Lo.step : Lo stepB := by
  have e : stepB = fun s => (wordsL s).map (fun l => (⟨l.headD ⟨#[]⟩, l.tail⟩ : S47)) := by funext s; rfl
  have e2 : wordsL = fun s => (wordL [40] s).bind fun _ r => listL Rc.strB 41 false r := by funext s; rfl
  rw [e, e2]
  exact Lo.map _ ((Lo.word [40]).bind fun _ => Lo.list Lo.strB rfl strB_prog 41 false)
theorem Lo.steps : Lo stepsL := by
  have e : stepsL = fun s => (wordL [91] s).bind fun _ r => listL stepB 93 true r := by funext s; rfl
  rw [e]
  exact (Lo.word [91]).bind fun _ => Lo.list Lo.step rfl stepB_prog 93 true
/-- What Parse computes, up to its end. -/
def parseI (s : List UInt8) : Res (ByteArray × List ByteArray × List S47) :=
  (wordL [82, 101, 99, 105, 112, 101, 40] s).bind fun _ r1 => (strB r1).bind fun nm r2 => (wordL [44] r2).bind fun _ r3 => ((wordL [91] r3).bind fun _ r => listL strB 93 true r).bind fun deps r4 => (wordL [44] r4).bind fun _ r5 =>
    (stepsL r5).bind fun steps r6 => (wordL [41] r6).bind fun _ r7 => .ok (nm, deps, steps) r7
theorem Lo.inner : Lo parseI := by
  have e : parseI = fun s => (wordL [82, 101, 99, 105, 112, 101, 40] s).bind fun _ r1 => (Rc.strB r1).bind fun nm r2 => (wordL [44] r2).bind fun _ r3 => ((wordL [91] r3).bind fun _ r => listL Rc.strB 93 true r).bind fun deps r4 => (wordL [44] r4).bind fun _ r5 =>
    (stepsL r5).bind fun steps r6 => (wordL [41] r6).bind fun _ r7 => .ok (nm, deps, steps) r7 := by funext s; rfl
  rw [e]
  exact (Lo.word _).bind fun _ => Lo.strB.bind fun nm => (Lo.word _).bind fun _ => ((Lo.word _).bind fun _ => Lo.list Lo.strB rfl strB_prog 93 true).bind fun deps => (Lo.word _).bind fun _ => Lo.steps.bind fun steps => (Lo.word _).bind fun _ => Lo.pure _
theorem Res.bind_assoc {α β γ : Type} (r : Res α) (f : α → List UInt8 → Res β) (g : β → List UInt8 → Res γ) : (r.bind f).bind g = r.bind fun x s => (f x s).bind g := by cases r <;> rfl
/-- A recipe's text and nothing behind it. -/
theorem parseL_inner (s : List UInt8) : parseL s = (parseI s).bind fun x r => if r = [] then .ok x [] else .bad r.length := by
  unfold parseL parseI
  simp only [Res.bind_assoc]
  rfl
/-- Where a text is broken, all ahead of it goes on to a recipe. -/
theorem parse_first (t : List UInt8) (l : Nat) (h : parseL t = .bad l) : l ≤ t.length ∧ ((∃ x, parseL (t.take (t.length - l)) = .ok x []) ∨ parseL (t.take (t.length - l)) = .bad 0) := by
  rw [parseL_inner] at h
  have cut : ∀ u v : List UInt8, v.length = l → t = u ++ v → l ≤ t.length ∧ t.take (t.length - l) = u := by
    rintro u v rfl rfl
    refine ⟨by simp, ?_⟩
    rw [List.length_append, Nat.add_sub_cancel, List.take_left]
  cases hp : parseI t with
  | bad l' =>
    rw [hp] at h
    cases h
    obtain ⟨u, v, h1, h2, h3⟩ := Lo.inner.bad t l hp
    obtain ⟨a, b⟩ := cut u v h2 h1
    exact ⟨a, .inr (by rw [b, parseL_inner, h3]; rfl)⟩
  | ok x r =>
    rw [hp] at h
    simp only [Res.bind] at h
    split at h
    · cases h
    · cases h
      obtain ⟨u, h1, h2, _⟩ := Lo.inner.ok t x r hp
      obtain ⟨a, b⟩ := cut u r rfl h1
      refine ⟨a, .inl ⟨x, ?_⟩⟩
      have h3 := h2 []
      rw [List.append_nil] at h3
      rw [b, parseL_inner, h3]
      rfl
/-- A recipe's text cut short, or with more behind it. -/
theorem parse_cut (t : List UInt8) (x : ByteArray × List ByteArray × List S47) (h : parseL t = .ok x []) : (∀ k, k < t.length → parseL (t.take k) = .bad 0) ∧ (∀ m, m ≠ [] → parseL (t ++ m) = .bad m.length) := by
  rw [parseL_inner] at h
  cases hp : parseI t with
  | bad l' => rw [hp] at h; cases h
  | ok y r =>
    rw [hp] at h
    simp only [Res.bind] at h
    split at h
    · rename_i hr
      cases h
      subst hr
      obtain ⟨u, h1, h2, h3⟩ := Lo.inner.ok t x [] hp
      rw [List.append_nil] at h1
      subst h1
      refine ⟨fun k hk => by rw [parseL_inner, h3 k hk]; rfl, fun m hm => ?_⟩
      rw [parseL_inner, h2 m]
      simp only [Res.bind, if_neg hm]
    · cases h
end Go.Proofs.Ytdkkgeibifpgiaa.Rc
/- The recipe's text: quotes and commas, as plain Lean. -/
namespace Go.Proofs.Ytdkkgeibifpgiaa.Rc
open Go.RowKit Go.Proofs.Ytdkkgeibifpgiaa.Bytes
set_option linter.unusedVariables false
set_option linter.unusedSimpArgs false

/-- A byte between quotes. -/
def qesc (x : UInt8) : List UInt8 := if x = 34 ∨ x = 92 then [92, x] else if x = 10 then [92, 110] else if x = 9 then [92, 116] else [x]
/-- A text between quotes. -/
def quoteL (l : List UInt8) : List UInt8 := 34 :: (l.flatMap qesc ++ [34])
def quoteB (b : ByteArray) : List UInt8 := quoteL (bs b)
/-- Things with commas between. -/
def commaL : List (List UInt8) → List UInt8
  | [] => []
  | x :: xs => x ++ xs.flatMap (44 :: ·)
theorem qesc_len (x : UInt8) : (qesc x).length ≤ 2 := by
  unfold qesc
  split
  · exact Nat.le_refl _
  · split
    · exact Nat.le_refl _
    · split
      · exact Nat.le_refl _
      · simp
theorem flat_len (l : List UInt8) : (l.flatMap qesc).length ≤ 2 * l.length := by
  induction l with
  | nil => simp
  | cons x l ih =>
    rw [List.flatMap_cons, List.length_append, List.length_cons]
    have := qesc_len x
    omega
theorem quoteB_le (b : ByteArray) : (quoteB b).length ≤ 2 * b.size + 2 := by
  have h1 := flat_len (bs b)
  rw [← size_bs] at h1
  show (34 :: ((bs b).flatMap qesc ++ [34]) : List UInt8).length ≤ _
  rw [List.length_cons, List.length_append, List.length_singleton]
  omega
end Go.Proofs.Ytdkkgeibifpgiaa.Rc
/- The recipe's text as plain Lean: printed, and read again. -/
namespace Go.Proofs.Ytdkkgeibifpgiaa.Rc
open Go.RowKit Go.Proofs.YtdkkgeibifpgiaaW.PrintWords Go.Proofs.Ytdkkgeibifpgiaa.Bytes Go.Proofs.Ytdkkgeibifpgiaa.Q
set_option linter.unusedVariables false
set_option linter.unusedSimpArgs false

def stepP (s : S47) : List UInt8 := 40 :: (commaL ((s.f0 :: s.f1).map quoteB) ++ [41])
def printL (x : ByteArray × List ByteArray × List S47) : List UInt8 :=
  [82, 101, 99, 105, 112, 101, 40] ++ (quoteB x.1 ++ ([44] ++ (([91] ++ (commaL (x.2.1.map quoteB) ++ [93])) ++ ([44] ++ (([91] ++ (commaL (x.2.2.map stepP) ++ [93])) ++ [41])))))

/-- What is printed is read, and nothing else. -/
structure Rt {α : Type} (P : List UInt8 → Res α) (pr : α → List UInt8) : Prop where
  fwd : ∀ x s, P (pr x ++ s) = .ok x s
  bwd : ∀ t x s, P t = .ok x s → t = pr x ++ s
theorem word_fwd (w s : List UInt8) : wordL w (w ++ s) = .ok () s := by
  induction w with
  | nil => rfl
  | cons c w ih => rw [List.cons_append, wordL, if_pos rfl, ih]
theorem body_fwd : ∀ (l s : List UInt8), strBody (l.flatMap qesc ++ 34 :: s) = .ok l s
  | [], s => by rw [List.flatMap_nil, List.nil_append, strBody_cons, if_pos rfl]
  | x :: l, s => by
    have ih := body_fwd l s
    rw [List.flatMap_cons, List.append_assoc]
    by_cases h1 : x = 34 ∨ x = 92
    · have e : qesc x = [92, x] := by unfold qesc; rw [if_pos h1]
      have hy : esc x = some x := by rcases h1 with rfl | rfl <;> decide
      rw [e, List.cons_append, List.cons_append, List.nil_append, strBody_cons, if_neg (by decide), if_neg (by decide), if_pos rfl]
      simp only [hy, ih, Res.map]
    · by_cases h2 : x = 10
      · have e : qesc x = [92, 110] := by unfold qesc; rw [if_neg h1, if_pos h2]
        rw [e, List.cons_append, List.cons_append, List.nil_append, strBody_cons, if_neg (by decide), if_neg (by decide), if_pos rfl]
        simp only [show esc 110 = some 10 from by decide, ih, Res.map, h2]
      · by_cases h3 : x = 9
        · have e : qesc x = [92, 116] := by unfold qesc; rw [if_neg h1, if_neg h2, if_pos h3]
          rw [e, List.cons_append, List.cons_append, List.nil_append, strBody_cons, if_neg (by decide), if_neg (by decide), if_pos rfl]
          simp only [show esc 116 = some 9 from by decide, ih, Res.map, h3]
        · have e : qesc x = [x] := by unfold qesc; rw [if_neg h1, if_neg h2, if_neg h3]
          rw [e, List.cons_append, List.nil_append, strBody_cons, if_neg (fun e => h1 (.inl e)), if_neg (fun e => e.elim h2 h3), if_neg (fun e => h1 (.inr e)), ih]
          rfl
theorem qesc_esc (y c : UInt8) (h : esc y = some c) : qesc c = [92, y] := by
  unfold esc at h
  split at h
  · rename_i e; cases h; subst e; decide
  · split at h
    · rename_i e; cases h; subst e; decide
    · split at h
      · rename_i e; cases h; subst e; decide
      · split at h
        · rename_i e; cases h; subst e; decide
        · cases h
theorem body_bwd : ∀ (n : Nat) (t : List UInt8), t.length ≤ n → ∀ l s, strBody t = .ok l s → t = l.flatMap qesc ++ 34 :: s
  | _, [], _, l, s, h => by cases h
  | 0, y :: s, hn, _, _, h => by simp at hn
  | n + 1, x :: t, hn, l, s, h => by
    have hn' : t.length ≤ n := by simpa using hn
    rw [strBody_cons] at h
    by_cases e1 : x = 34
    · rw [if_pos e1] at h
      cases h
      subst e1; rfl
    · rw [if_neg e1] at h
      by_cases e2 : x = 10 ∨ x = 9
      · rw [if_pos e2] at h; cases h
      · rw [if_neg e2] at h
        by_cases e3 : x = 92
        · rw [if_pos e3] at h
          cases t with
          | nil => cases h
          | cons y t =>
            simp only at h
            cases hy : esc y with
            | none => rw [hy] at h; cases h
            | some c =>
              rw [hy] at h
              cases hb : strBody t with
              | bad l2 => rw [hb] at h; cases h
              | ok x2 r2 =>
                rw [hb] at h
                cases h
                rw [body_bwd n t (by simp at hn'; omega) _ _ hb, List.flatMap_cons, qesc_esc y c hy, e3]
                rfl
        · rw [if_neg e3] at h
          cases hb : strBody t with
          | bad l2 => rw [hb] at h; cases h
          | ok x2 r2 =>
            rw [hb] at h
            cases h
            have e : qesc x = [x] := by unfold qesc; rw [if_neg (fun h => h.elim e1 e3), if_neg (fun h => e2 (.inl h)), if_neg (fun h => e2 (.inr h))]
            rw [List.flatMap_cons, e, List.append_assoc, ← body_bwd n t hn' _ _ hb]
            rfl
theorem Rt.str : Rt strL quoteL := by
  refine ⟨fun x s => ?_, fun t x s h => ?_⟩
  · unfold strL quoteL
    have e : (34 :: (x.flatMap qesc ++ [34])) ++ s = [34] ++ (x.flatMap qesc ++ 34 :: s) := by simp
    rw [e, word_fwd]
    exact body_fwd x s
  · unfold strL at h
    cases hw : wordL [34] t with
    | bad l => rw [hw] at h; cases h
    | ok u r =>
      have hs := wordL_len _ _ _ hw
      rw [hw] at h
      rw [hs, body_bwd _ r (Nat.le_refl _) x s h]
      simp [quoteL]
theorem bs_mk (l : List UInt8) : bs (⟨l.toArray⟩ : ByteArray) = l := rfl
theorem mk_bs (b : ByteArray) : (⟨(bs b).toArray⟩ : ByteArray) = b := rfl
theorem Rt.strB : Rt strB quoteB := by
  refine ⟨fun x s => ?_, fun t x s h => ?_⟩
  · have e : Rc.strB (quoteB x ++ s) = (strL (quoteL (bs x) ++ s)).map (fun l => (⟨l.toArray⟩ : ByteArray)) := rfl
    rw [e, Rt.str.fwd]
    rfl
  · have e : Rc.strB t = (strL t).map (fun l => (⟨l.toArray⟩ : ByteArray)) := rfl
    rw [e] at h
    cases hs : strL t with
    | bad l => rw [hs] at h; cases h
    | ok l r =>
      rw [hs] at h
      cases h
      exact Rt.str.bwd t l s hs
section
variable {α : Type} {one : List UInt8 → Res α} {pr : α → List UInt8}
theorem more_fwd (h1 : Rt one pr) (e : UInt8) (he : ¬ e = 44) : ∀ (xs : List α) (n : Nat) (s : List UInt8), xs.length < n → moreL one e n ((xs.map pr).flatMap (44 :: ·) ++ e :: s) = .ok xs s
  | [], n, s, hn => by
    obtain ⟨m, rfl⟩ : ∃ m, n = m + 1 := ⟨n - 1, by simp at hn; omega⟩
    rw [moreL]
    simp
  | x :: xs, n, s, hn => by
    obtain ⟨m, rfl⟩ : ∃ m, n = m + 1 := ⟨n - 1, by simp at hn; omega⟩
    have ih := more_fwd h1 e he xs m s (by simp at hn; omega)
    rw [moreL, List.map_cons, List.flatMap_cons, List.cons_append, List.cons_append, if_neg (by simp; exact fun h => he h.symm)]
    have e2 : 44 :: (pr x ++ (xs.map pr).flatMap (44 :: ·) ++ e :: s) = [44] ++ (pr x ++ ((xs.map pr).flatMap (44 :: ·) ++ e :: s)) := by simp
    rw [e2, word_fwd]
    simp only [Res.bind, h1.fwd, ih, Res.map]
theorem more_bwd (h1 : Rt one pr) (e : UInt8) : ∀ (n : Nat) (t : List UInt8) (xs : List α) (s : List UInt8), moreL one e n t = .ok xs s → t = (xs.map pr).flatMap (44 :: ·) ++ e :: s
  | 0, t, xs, s, h => by cases h
  | n + 1, t, xs, s, h => by
    rw [moreL] at h
    split at h
    · rename_i h0
      cases h
      cases t with
      | nil => cases h0
      | cons y t =>
        have : y = e := by simpa using h0
        subst this; rfl
    · cases hw : wordL [44] t with
      | bad l => rw [hw] at h; cases h
      | ok u r0 =>
        have hs := wordL_len _ _ _ hw
        rw [hw] at h
        cases ho : one r0 with
        | bad l => simp only [Res.bind, ho] at h; cases h
        | ok x r1 =>
          simp only [Res.bind, ho] at h
          cases hm : moreL one e n r1 with
          | bad l => rw [hm] at h; cases h
          | ok ys r2 =>
            rw [hm] at h
            cases h
            rw [hs, h1.bwd _ _ _ ho, more_bwd h1 e n _ _ _ hm]
            simp
theorem list_fwd (h1 : Rt one pr) (hlen : ∀ x, 1 ≤ (pr x).length) (e : UInt8) (he : ¬ e = 44) (none : Bool) (xs : List α) (s : List UInt8) (hn : none = true ∨ xs ≠ []) (hh : none = true → ∀ x, (pr x).head? ≠ some e) : listL one e none (commaL (xs.map pr) ++ e :: s) = .ok xs s := by
  cases xs with
  | nil =>
    have : none = true := hn.elim id (fun h => absurd rfl h)
    rw [listL, if_pos ⟨this, by simp [commaL]⟩]
    simp [commaL]
  | cons x xs =>
    have hhd : ¬ (none = true ∧ (commaL ((x :: xs).map pr) ++ e :: s).head? = some e) := by
      rintro ⟨h, h2⟩
      have h3 := hh h x
      have h4 := hlen x
      cases hp : pr x with
      | nil => rw [hp] at h4; simp at h4
      | cons y l =>
        rw [List.map_cons, commaL, hp] at h2
        rw [hp] at h3
        exact h3 (by simpa using h2)
    rw [listL, if_neg hhd, List.map_cons, commaL, List.append_assoc, h1.fwd]
    simp only [Res.bind]
    rw [more_fwd h1 e he xs _ s ?_]
    · rfl
    · rw [List.length_append]
      have : xs.length ≤ ((xs.map pr).flatMap (44 :: ·)).length := by
        clear hn hh hhd
        induction xs with
        | nil => simp
        | cons y ys ih => rw [List.map_cons, List.flatMap_cons, List.length_append]; simp only [List.length_cons]; omega
      omega
theorem list_bwd (h1 : Rt one pr) (e : UInt8) (none : Bool) (t : List UInt8) (xs : List α) (s : List UInt8) (h : listL one e none t = .ok xs s) : t = commaL (xs.map pr) ++ e :: s := by
  rw [listL] at h
  split at h
  · rename_i h0
    cases h
    cases t with
    | nil => cases h0.2
    | cons y t =>
      have : y = e := by simpa using h0.2
      subst this; rfl
  · cases ho : one t with
    | bad l => rw [ho] at h; cases h
    | ok x r1 =>
      simp only [Res.bind, ho] at h
      cases hm : moreL one e (r1.length + 1) r1 with
      | bad l => rw [hm] at h; cases h
      | ok ys r2 =>
        rw [hm] at h
        cases h
        rw [h1.bwd _ _ _ ho, more_bwd h1 e _ _ _ _ hm, List.map_cons, commaL, List.append_assoc]
end
theorem quoteB_head (b : ByteArray) : (quoteB b).head? = some 34 := rfl
theorem quoteB_len (b : ByteArray) : 1 ≤ (quoteB b).length := by show 1 ≤ (34 :: _ : List UInt8).length; simp
theorem Rt.step : Rt stepB stepP := by
  refine ⟨fun x s => ?_, fun t x s h => ?_⟩
  · have e : stepP x ++ s = [40] ++ (commaL ((x.f0 :: x.f1).map quoteB) ++ 41 :: s) := by simp [stepP]
    unfold stepB wordsL
    rw [e, word_fwd]
    simp only [Res.bind]
    rw [list_fwd Rt.strB quoteB_len 41 (by decide) false _ s (.inr (by simp)) (by simp)]
    rfl
  · unfold stepB at h
    cases hw : wordsL t with
    | bad l => rw [hw] at h; cases h
    | ok l r =>
      rw [hw] at h
      cases h
      obtain ⟨_, y, ys, rfl⟩ := wordsL_some _ _ _ hw
      unfold wordsL at hw
      cases hv : wordL [40] t with
      | bad l => rw [hv] at hw; cases hw
      | ok u r0 =>
        have hs := wordL_len _ _ _ hv
        rw [hv] at hw
        rw [hs, list_bwd Rt.strB 41 false r0 _ s hw]
        simp [stepP]
theorem Rt.steps : Rt stepsL (fun xs => [91] ++ (commaL (xs.map stepP) ++ [93])) := by
  refine ⟨fun x s => ?_, fun t x s h => ?_⟩
  · unfold stepsL
    have e : ([91] ++ (commaL (x.map stepP) ++ [93])) ++ s = [91] ++ (commaL (x.map stepP) ++ 93 :: s) := by simp
    rw [e, word_fwd]
    simp only [Res.bind]
    exact list_fwd Rt.step (fun x => by simp [stepP]) 93 (by decide) true _ s (.inl rfl) (fun _ x => by simp [stepP])
  · unfold stepsL at h
    cases hv : wordL [91] t with
    | bad l => rw [hv] at h; cases h
    | ok u r0 =>
      have hs := wordL_len _ _ _ hv
      rw [hv] at h
      rw [hs, list_bwd Rt.step 93 true r0 _ s h]
      simp
theorem Rt.deps : Rt (fun s => (wordL [91] s).bind fun _ r => listL Rc.strB 93 true r) (fun xs => [91] ++ (commaL (xs.map quoteB) ++ [93])) := by
  refine ⟨fun x s => ?_, fun t x s h => ?_⟩
  · have e : ([91] ++ (commaL (x.map quoteB) ++ [93])) ++ s = [91] ++ (commaL (x.map quoteB) ++ 93 :: s) := by simp
    rw [e, word_fwd]
    simp only [Res.bind]
    exact list_fwd Rt.strB quoteB_len 93 (by decide) true _ s (.inl rfl) (fun _ x => by rw [quoteB_head]; decide)
  · cases hv : wordL [91] t with
    | bad l => simp only [hv, Res.bind] at h; cases h
    | ok u r0 =>
      have hs := wordL_len _ _ _ hv
      simp only [hv, Res.bind] at h
      rw [hs, list_bwd Rt.strB 93 true r0 _ s h]
      simp
theorem Rt.word (w : List UInt8) : Rt (wordL w) (fun _ => w) := ⟨fun x s => word_fwd w s, fun t x s h => wordL_len _ _ _ h⟩
theorem Rt.inner : Rt parseI printL := by
  refine ⟨fun x s => ?_, fun t x s h => ?_⟩
  · obtain ⟨nm, deps, steps⟩ := x
    have e : printL (nm, deps, steps) ++ s = [82, 101, 99, 105, 112, 101, 40] ++ (quoteB nm ++ ([44] ++ (([91] ++ (commaL (deps.map quoteB) ++ [93])) ++ ([44] ++ (([91] ++ (commaL (steps.map stepP) ++ [93])) ++ ([41] ++ s)))))) := by simp [printL]
    have hd := Rt.deps.fwd deps ([44] ++ (([91] ++ (commaL (steps.map stepP) ++ [93])) ++ ([41] ++ s)))
    have hs := Rt.steps.fwd steps ([41] ++ s)
    have bok : ∀ {α β : Type} (x : α) (s : List UInt8) (f : α → List UInt8 → Res β), (Res.ok x s).bind f = f x s := fun _ _ _ => rfl
    unfold parseI
    rw [e]
    simp only [word_fwd, bok, Rt.strB.fwd]
    rw [hd]
    simp only [word_fwd, bok]
    rw [hs]
    simp only [word_fwd, bok]
  · unfold parseI at h
    cases h1 : wordL [82, 101, 99, 105, 112, 101, 40] t with
    | bad l => simp only [h1, Res.bind] at h; cases h
    | ok u1 r1 =>
      simp only [h1, Res.bind] at h
      cases h2 : Rc.strB r1 with
      | bad l => simp only [h2] at h; cases h
      | ok nm r2 =>
        simp only [h2] at h
        cases h3 : wordL [44] r2 with
        | bad l => simp only [h3] at h; cases h
        | ok u3 r3 =>
          simp only [h3] at h
          cases h4 : (wordL [91] r3).bind (fun _ r => listL Rc.strB 93 true r) with
          | bad l => have h4' := h4; simp only [Res.bind] at h4'; simp only [h4'] at h; cases h
          | ok deps r4 =>
            have h4' := h4
            simp only [Res.bind] at h4'
            simp only [h4'] at h
            cases h5 : wordL [44] r4 with
            | bad l => simp only [h5] at h; cases h
            | ok u5 r5 =>
              simp only [h5] at h
              cases h6 : stepsL r5 with
              | bad l => simp only [h6] at h; cases h
              | ok steps r6 =>
                simp only [h6] at h
                cases h7 : wordL [41] r6 with
                | bad l => simp only [h7] at h; cases h
                | ok u7 r7 =>
                  simp only [h7] at h
                  cases h
                  rw [wordL_len _ _ _ h1, Rt.strB.bwd _ _ _ h2, wordL_len _ _ _ h3, Rt.deps.bwd _ _ _ h4, wordL_len _ _ _ h5, Rt.steps.bwd _ _ _ h6, wordL_len _ _ _ h7]
                  simp [printL]
/-- What is printed is read again. -/
theorem parse_print (x : ByteArray × List ByteArray × List S47) : parseL (printL x) = .ok x [] := by
  have h := Rt.inner.fwd x []
  rw [List.append_nil] at h
  rw [parseL_inner, h]
  rfl
/-- What is read is what would be printed. -/
theorem print_parse (t : List UInt8) (x : ByteArray × List ByteArray × List S47) (r : List UInt8) (h : parseL t = .ok x r) : printL x = t ∧ r = [] := by
  rw [parseL_inner] at h
  cases hp : parseI t with
  | bad l' => rw [hp] at h; cases h
  | ok y s =>
    rw [hp] at h
    simp only [Res.bind] at h
    split at h
    · rename_i hr
      cases h
      have := Rt.inner.bwd t x s hp
      rw [hr, List.append_nil] at this
      exact ⟨this.symm, rfl⟩
    · cases h
end Go.Proofs.Ytdkkgeibifpgiaa.Rc
/- By a program of this session's: a plain Lean function for a Go function, and its contract. -/
namespace Go.Proofs.Ytdkkgeibifpgiaa.Q
open Go.RowKit Go.Proofs.YtdkkgeibifpgiaaW.PrintWords Go.Proofs.YtdkkgeibifpgiaaW.PrintLast Go.Proofs.YtdkkgeibifpgiaaW.PrintMore
attribute [local go_sem] max2_int min2_int max_two min_two max_three min_three max_four min_four Go.Proofs.Ytdkkgeibifpgiaa.Ord.str_leq Go.Proofs.Ytdkkgeibifpgiaa.Ord.str_gtr Go.Proofs.Ytdkkgeibifpgiaa.Ord.str_geq   -- for this text's walks alone
set_option linter.unusedVariables false
set_option linter.unusedSimpArgs false

/-! ### depotref21_word: function 23 -/
def depotref21_word.l0 : Nat → ByteArray → Int → ByteArray → Int → Option (Int × Bool)
  | 0, _, _, _, _ => none
  | k + 1, x0, x1, x2, x8 => if x8 < (x2.size : Int) then (if x1 ≥ (x0.size : Int) then (some (x1, false)) else (if 0 ≤ x1 then (if x1 < (x0.size : Int) then (if 0 ≤ x8 then (if (bt x0 x1) = (bt x2 x8) then (depotref21_word.l0 k x0 (wrap64 (x1 + 1)) x2 (wrap64 (x8 + 1))) else (some (x1, false))) else (none)) else (none)) else (none))) else (some (x1, true))
def depotref21_word.f (k : Nat) (a0 : ByteArray) (a1 : Int) (a2 : ByteArray) : Option (Int × Bool) := depotref21_word.l0 k a0 a1 a2 0
theorem depotref21_word.mono_l : ∀ k, (∀ y0 y1 y2 y3, LeO (depotref21_word.l0 k y0 y1 y2 y3) (depotref21_word.l0 (k + 1) y0 y1 y2 y3))
  | 0 => fun _ _ _ _ r h => by simp [depotref21_word.l0] at h
  | k + 1 => by
    have ih0 := depotref21_word.mono_l k
    · intro y0 y1 y2 y3
      unfold depotref21_word.l0
      repeat' first
      | (with_reducible exact ih0 _ _ _ _)
      | (with_reducible exact LeO.refl _)
      | (with_reducible exact LeO.none _)
      | (with_reducible refine LeO.ite ?_ ?_)
      | (with_reducible refine LeO.bind ?_ (fun _ => ?_))
      | exact ih0 _ _ _ _
      | exact LeO.none _
      | refine LeO.ite ?_ ?_
      | refine LeO.bind ?_ (fun _ => ?_)
theorem depotref21_word.mono : ∀ a0 a1 a2 k, LeO (depotref21_word.f k a0 a1 a2) (depotref21_word.f (k + 1) a0 a1 a2) := by
  intro a0 a1 a2 k
  have ih0 := depotref21_word.mono_l k
  unfold depotref21_word.f
  repeat' first
      | (with_reducible exact ih0 _ _ _ _)
      | (with_reducible exact LeO.refl _)
      | (with_reducible exact LeO.none _)
      | (with_reducible refine LeO.ite ?_ ?_)
      | (with_reducible refine LeO.bind ?_ (fun _ => ?_))
      | exact ih0 _ _ _ _
      | exact LeO.none _
      | refine LeO.ite ?_ ?_
      | refine LeO.bind ?_ (fun _ => ?_)
set_option maxHeartbeats 8000000 in
set_option maxRecDepth 100000 in
theorem depotref21_word.calls (k : Nat) (a0 : ByteArray) (a1 : Int) (a2 : ByteArray) (r1 : Int) (r2 : Bool) (w : World) (h : depotref21_word.f k a0 a1 a2 = some (r1, r2)) :
    Calls Try.prog 23 #[.string a0, .int .i64 a1, .string a2] w fun e w' => e = .returned (.tuple #[.int .i64 r1, .bool r2]) ∧ Drawn0 w w' := by
  have H : (depotref21_word.l0 k a0 a1 a2 0) = some (r1, r2) := h
  clear h
  have H' := Aside0.mk H
  clear H
  go_enter Try.func23, Try.ntmps23
  go_wp2
  repeat (go_quiet (fail); try go_wp2)
  go_loopg [1, 8] k (fun kq v1 v8 w' => ∃ (x1_1 : Int) (x8_1 : Int), v1 = .int .i64 x1_1 ∧ v8 = .int .i64 x8_1 ∧ Aside0 (depotref21_word.l0 kq a0 x1_1 a2 x8_1 = some (r1, r2)) ∧ Aside0 (kq ≤ k) ∧ Drawn0 w w')
  case atStart => exact ⟨(a1), (0), (by first | rfl | (simp; done) | (simp [*]; done)), (by first | rfl | (simp; done) | (simp [*]; done)), H', ⟨Nat.le_refl _⟩, by repeat (first | exact Drawn0.refl _ | apply Drawn0.step)⟩
  case round =>
    clear H'
    try clear c2
    try clear p2
    obtain ⟨x1_1, x8_1, rfl, rfl, HA, HK1, ⟨m1, rfl⟩⟩ := hrel
    cases gk with
    | zero => exact absurd HA.out (by simp [depotref21_word.l0])
    | succ k1 =>
      have H := HA.out
      clear HA
      simp only [depotref21_word.l0] at H
      by_cases c4 : x8_1 < (a2.size : Int)
      · rw [if_pos c4] at H
        have c4b0 : decide (x8_1 < (a2.size : Int)) = true := decide_eq_true c4
        clear c4
        by_cases c5 : x1_1 ≥ (a0.size : Int)
        · rw [if_pos c5] at H
          have c5b0 : decide ((a0.size : Int) ≤ x1_1) = true := decide_eq_true c5
          clear c5
          simp only [Option.some.injEq, Prod.mk.injEq] at H
          obtain ⟨rfl, rfl⟩ := H
          go_wp2
          repeat (go_quiet (fail); try go_wp2)
          go_ret2
          exact ⟨by first | rfl | (simp; done) | (simp [*]; done), by repeat (first | exact Drawn0.refl _ | apply Drawn0.step)⟩
        · rw [if_neg c5] at H
          have c5b0 : decide ((a0.size : Int) ≤ x1_1) = false := decide_eq_false c5
          clear c5
          by_cases c6 : 0 ≤ x1_1
          · rw [if_pos c6] at H
            have c6b0 : decide (0 ≤ x1_1) = true := decide_eq_true c6
            clear c6
            by_cases c7 : x1_1 < (a0.size : Int)
            · rw [if_pos c7] at H
              have c7b0 : decide (x1_1 < (a0.size : Int)) = true := decide_eq_true c7
              clear c7
              by_cases c9 : 0 ≤ x8_1
              · rw [if_pos c9] at H
                have c9b0 : decide (0 ≤ x8_1) = true := decide_eq_true c9
                clear c9
                by_cases c11 : (bt a0 x1_1) = (bt a2 x8_1)
                · rw [if_pos c11] at H
                  have c11b0 : ((bt a0 x1_1) == (bt a2 x8_1)) = true := beq_iff_eq.mpr c11
                  have c11b1 : ((bt a0 x1_1) != (bt a2 x8_1)) = false := bne_eq_false_iff_eq.mpr c11
                  clear c11
                  have H' := Aside0.mk H
                  clear H
                  have p8 : 0 ≤ (x1_1 : Int) := of_decide_eq_true (by first | (with_reducible assumption) | assumption)
                  have q8 : x1_1 < (a0.size : Int) := of_decide_eq_true (by first | (with_reducible assumption) | assumption)
                  have hx8 := bt_at a0 x1_1
                  replace p8 := eq_true p8
                  replace q8 := eq_true q8
                  have p10 : 0 ≤ (x8_1 : Int) := of_decide_eq_true (by first | (with_reducible assumption) | assumption)
                  have q10 : x8_1 < (a2.size : Int) := of_decide_eq_true (by first | (with_reducible assumption) | assumption)
                  have hx10 := bt_at a2 x8_1
                  replace p10 := eq_true p10
                  replace q10 := eq_true q10
                  go_wp2
                  repeat (go_quiet (fail); try go_wp2)
                  go_roundg k1
                  case measure => have := HK1.out; omega
                  case rel => exact ⟨(wrap64 (x1_1 + 1)), (wrap64 (x8_1 + 1)), (by first | rfl | (simp; done) | (simp [*]; done)), (by first | rfl | (simp; done) | (simp [*]; done)), H', ⟨by have := HK1.out; omega⟩, by repeat (first | exact Drawn0.refl _ | apply Drawn0.step)⟩
                · rw [if_neg c11] at H
                  have c11b0 : ((bt a0 x1_1) == (bt a2 x8_1)) = false := beq_eq_false_iff_ne.mpr c11
                  have c11b1 : ((bt a0 x1_1) != (bt a2 x8_1)) = true := bne_iff_ne.mpr c11
                  simp only [Option.some.injEq, Prod.mk.injEq] at H
                  obtain ⟨rfl, rfl⟩ := H
                  have p8 : 0 ≤ (x1_1 : Int) := of_decide_eq_true (by first | (with_reducible assumption) | assumption)
                  have q8 : x1_1 < (a0.size : Int) := of_decide_eq_true (by first | (with_reducible assumption) | assumption)
                  have hx8 := bt_at a0 x1_1
                  replace p8 := eq_true p8
                  replace q8 := eq_true q8
                  have p10 : 0 ≤ (x8_1 : Int) := of_decide_eq_true (by first | (with_reducible assumption) | assumption)
                  have q10 : x8_1 < (a2.size : Int) := of_decide_eq_true (by first | (with_reducible assumption) | assumption)
                  have hx10 := bt_at a2 x8_1
                  replace p10 := eq_true p10
                  replace q10 := eq_true q10
                  go_wp2
                  repeat (go_quiet (fail); try go_wp2)
                  go_ret2
                  exact ⟨by first | rfl | (simp; done) | (simp [*]; done), by repeat (first | exact Drawn0.refl _ | apply Drawn0.step)⟩
              · rw [if_neg c9] at H
                exact absurd H (by simp)
            · rw [if_neg c7] at H
              exact absurd H (by simp)
          · rw [if_neg c6] at H
            exact absurd H (by simp)
      · rw [if_neg c4] at H
        have c4b0 : decide (x8_1 < (a2.size : Int)) = false := decide_eq_false c4
        clear c4
        simp only [Option.some.injEq, Prod.mk.injEq] at H
        obtain ⟨rfl, rfl⟩ := H
        go_wp2
        repeat (go_quiet (fail); try go_wp2)
        go_ret2
        exact ⟨by first | rfl | (simp; done) | (simp [*]; done), by repeat (first | exact Drawn0.refl _ | apply Drawn0.step)⟩

end Go.Proofs.Ytdkkgeibifpgiaa.Q
/- The recipe's reference: its words are the reader's. -/
namespace Go.Proofs.Ytdkkgeibifpgiaa.Rc
open Go.RowKit Go.Proofs.YtdkkgeibifpgiaaW.PrintWords Go.Proofs.Ytdkkgeibifpgiaa.Bytes Go.Proofs.Ytdkkgeibifpgiaa.Q
set_option linter.unusedVariables false
set_option linter.unusedSimpArgs false

/-- A place and whether all went well, as the reference tells it. -/
def toRef (n : Nat) (r : Res Unit) : Int × Bool := match r with | .ok _ s => (((n - s.length : Nat) : Int), true) | .bad l => (((n - l : Nat) : Int), false)
theorem wrap_up (x : Nat) (h : x ≤ 1099511627776) : wrap64 ((x : Int) + 1) = ((x + 1 : Nat) : Int) := by
  unfold wrap64
  omega
theorem word_law (T word : ByteArray) (hT : T.size < 1099511627776) (hw : word.size ≤ 1000) : ∀ (k i p : Nat), i ≤ word.size → p ≤ T.size → word.size - i < k →
    depotref21_word.l0 k T (p : Int) word (i : Int) = some (toRef T.size (wordL ((bs word).drop i) ((bs T).drop p)))
  | 0, i, p, hi, hp, hk => by omega
  | k + 1, i, p, hi, hp, hk => by
    rw [depotref21_word.l0]
    by_cases h1 : i < word.size
    · rw [if_pos (by omega), drop_cons word i h1]
      by_cases h2 : p < T.size
      · rw [if_neg (by omega), if_pos (by omega), if_pos (by omega), if_pos (by omega), drop_cons T p h2, wordL]
        have e1 : bt T (p : Int) = ((T[p]'h2).toNat : Int) := by
          unfold bt
          simp [h2]
        have e2 : bt word (i : Int) = ((word[i]'h1).toNat : Int) := by
          unfold bt
          simp [h1]
        rw [e1, e2]
        by_cases h3 : (T[p]'h2) = (word[i]'h1)
        · rw [if_pos (by rw [h3]), if_pos h3, wrap_up p (by omega), wrap_up i (by omega)]
          exact word_law T word hT hw k (i + 1) (p + 1) h1 h2 (by omega)
        · rw [if_neg (fun e => h3 (UInt8.toNat_inj.1 (by omega))), if_neg h3]
          have : ((bs T).drop (p + 1)).length = T.size - (p + 1) := by rw [List.length_drop, ← size_bs]
          simp only [toRef, this]
          congr 2
          omega
      · obtain rfl : p = T.size := by omega
        rw [if_pos (by omega), List.drop_of_length_le (l := bs T) (by rw [← size_bs]; exact Nat.le_refl _), wordL]
        simp [toRef]
    · obtain rfl : i = word.size := by omega
      rw [if_neg (by omega), List.drop_of_length_le (l := bs word) (by rw [← size_bs]; exact Nat.le_refl _), wordL]
      have : ((bs T).drop p).length = T.size - p := by rw [List.length_drop, ← size_bs]
      simp only [toRef, this]
      congr 2
      omega
end Go.Proofs.Ytdkkgeibifpgiaa.Rc
/- strings.Join by the library's own contract. -/
namespace Go.Proofs.Ytdkkgeibifpgiaa.Q
open Go.RowKit Go.Proofs.YtdkkgeibifpgiaaW.PrintWords Go.Proofs.YtdkkgeibifpgiaaW.PrintLast Go.Proofs.YtdkkgeibifpgiaaW.PrintMore Go.Proofs.Ytdkkgeibifpgiaa.Bytes
set_option linter.unusedVariables false
set_option linter.unusedSimpArgs false

def strings_Join.f (l0 : List ByteArray) (sep : ByteArray) : Option ByteArray :=
  if l0.length ≤ 140737488355328 ∧ (Lib.join (l0.map bs) (bs sep)).length ≤ 140737488355328 then some ⟨(Lib.join (l0.map bs) (bs sep)).toArray⟩ else none
theorem strings_Join.calls (A0 : Option Addr) (c0 : Nat) (l0 : List ByteArray) (a1 : ByteArray) (r : ByteArray) (w : World) (hr0 : Kd.C Kd.string w A0 l0.length l0) (hc0 : l0.length ≤ c0) (h : strings_Join.f l0 a1 = some r) :
    Calls Try.prog 30 #[.slice A0 l0.length c0, .string a1] w fun e w' => e = .returned (.string r) ∧ Below w.heap.size w w' := by
  unfold strings_Join.f at h
  split at h
  case isFalse => cases h
  case isTrue hc =>
    obtain rfl := Option.some.inj h
    cases l0 with
    | nil =>
      refine (Try.strings_Join_none A0 c0 a1 w).mono ?_
      rintro e w' ⟨rfl, rfl⟩
      exact ⟨rfl, Below.refl _ _⟩
    | cons x t =>
      obtain ⟨ad, rfl, hcells⟩ := hr0.2.2 (by simp)
      have hcell : ∀ (j : Nat) y, (x :: t)[j]? = some y → w.cell? (ad.add j) = some (.string y) := by
        intro j y hy
        obtain ⟨c, hcl, hcy, hu⟩ := hcells j y hy
        have hcy' : c = [Value.string y] := hcy
        subst hcy'
        have := hu 0 (.string y) rfl
        simpa [Kd.string, Kd.scalar] using this
      have h0 := hcell 0 x rfl
      have hs : ad.spot = none := by
        have h0' : w.cell? ad = some (.string x) := h0
        cases hsp : ad.spot with
        | none => rfl
        | some k =>
          unfold World.cell? at h0'
          split at h0'
          · rw [hsp] at h0'; simp at h0'
          · cases h0'
      have hlt : ad.block < w.heap.size := World.block_lt_of_cell? w ad h0
      obtain ⟨b, o, s⟩ := ad
      obtain rfl : s = none := hs
      refine (Try.strings_Join b o c0 (x :: t) a1 w (fun j y hy => ?_) hlt hc.1 hc0 hc.2).mono ?_
      · have := hcell j y hy
        unfold Addr.add at this
        split at this
        · rename_i e; subst e; exact this
        · exact this
      · rintro e w' ⟨rfl, hb⟩
        exact ⟨rfl, hb⟩
end Go.Proofs.Ytdkkgeibifpgiaa.Q
/- recipe.quote, walked: a text between quotes. -/
namespace Go.Proofs.Ytdkkgeibifpgiaa.Rc
open Go.RowKit Go.Lib Go.Proofs.YtdkkgeibifpgiaaW.PrintWords Go.Proofs.YtdkkgeibifpgiaaW.PrintLast Go.Proofs.YtdkkgeibifpgiaaW.PrintMore Go.Proofs.Ytdkkgeibifpgiaa.Bytes
set_option linter.unusedVariables false
set_option linter.unusedSimpArgs false

/-- What has been written behind i bytes. -/
def qacc (s : ByteArray) (i : Nat) : List UInt8 := 34 :: ((bs s).take i).flatMap qesc
theorem qacc_succ (s : ByteArray) (i : Nat) (x : UInt8) (hi : i < s.size) (hx : s[i]'hi = x) : qacc s (i + 1) = qacc s i ++ qesc x := by
  have h' : i < (bs s).length := by rw [← size_bs]; exact hi
  unfold qacc
  rw [List.take_succ_eq_append_getElem h', List.flatMap_append, List.flatMap_cons, List.flatMap_nil, List.append_nil, List.cons_append, show (bs s)[i] = x from hx]
theorem qacc_len (s : ByteArray) (i : Nat) (hi : i ≤ s.size) : (qacc s i).length ≤ 2 * i + 1 := by
  have := flat_len ((bs s).take i)
  unfold qacc
  rw [List.length_cons]
  rw [List.length_take] at this
  omega
theorem bld_text {T e : TypeId} {B b : Nat} {acc : List UInt8} {s : ByteArray} {w : World} (h : BuilderAtF T e B b (.pointer (some ⟨b, 0, none⟩)) (byteCells acc ++ strCells s) w) : IsBuilderF T e B b (byteCells (acc ++ bs s)) w := by
  rw [byteCells_append]
  exact .inr h
theorem w1_below {w w1 : World} {o : Obj} (h : w.alloc o = w1) : Below w.heap.size w w1 := by
  rw [← h]
  exact (Below.refl _ w).alloc (Nat.le_refl _) o
set_option maxRecDepth 100000 in
set_option maxHeartbeats 4000000 in
theorem quote_calls (s : ByteArray) (w : World) (hs : s.size ≤ 17592186044416) :
    Calls Try.prog 29 #[.string s] w fun e w' => e = .returned (.string ⟨(quoteL (bs s)).toArray⟩) ∧ Below w.heap.size w w' := by
  obtain ⟨B, hB⟩ : ∃ B, w.heap.size = B := ⟨_, rfl⟩
  rw [hB]
  go_enter Try.func29, Try.ntmps29
  go_wp2_with (go_at_call 37; generalize hw2 : World.alloc w _ = w2; have hI0 : IsBuilderF 76 5 B B (byteCells []) w2 := (by rw [← hw2, ← hB]; exact IsBuilderF.of (fresh_isBuilder 76 5 w)); have hb2 := w1_below hw2; rw [hB] at hb2; (try rw [hB]); refine (Try.WriteByte_k B B (byteCells []) 34 w2 hI0 (by rw [byteCells_length]; simp) (Nat.le_of_lt (bld_lt hI0))).mono ?_; rintro e w3 ⟨rfl, hI3, hb3, _⟩; have HI3 := Aside0.mk (bld_byte (x := 34) hI3); have HB3 := Aside0.mk (hb2.trans hb3); clear hI0 hI3 hb2 hb3 hw2)
  go_loopg [8] s.size (fun g v8 wx => ∃ i : Nat, i + g = s.size ∧ v8 = .int .i64 (i : Int) ∧ Aside0 (IsBuilderF 76 5 B B (byteCells (qacc s i)) wx) ∧ Aside0 (Below B w wx))
  case atStart => exact ⟨0, by omega, rfl, HI3, HB3⟩
  case round =>
    obtain ⟨i, hig, rfl, HI, HB⟩ := hrel
    have hal := qacc_len s i (by omega)
    obtain ⟨acc, hacc⟩ : ∃ acc, qacc s i = acc := ⟨_, rfl⟩
    cases gk with
    | zero =>
      obtain rfl : i = s.size := by omega
      have hfin : acc ++ [34] = quoteL (bs s) := by
        rw [← hacc]
        unfold qacc quoteL
        rw [List.take_of_length_le (by rw [← size_bs]; exact Nat.le_refl _), List.cons_append]
      have HFIN := Aside0.mk hfin
      rw [hacc] at HI hal
      clear hfin hacc HI3 HB3
      have d1 : decide ((s.size : Int) < (s.size : Int)) = false := decide_eq_false (by omega)
      go_wp2_with (first | (go_at_call 37; ((with_reducible refine (Try.WriteByte_k B B (byteCells acc) 34 _ HI.out (by rw [byteCells_length]; omega) (Nat.le_of_lt (bld_lt HI.out))).mono ?_)); rintro e w4 ⟨rfl, hI4, hb4, _⟩; have HI4 := Aside0.mk (bld_byte (x := 34) hI4); have HB4 := Aside0.mk (HB.out.trans hb4); clear hI4 hb4) | (go_at_call 35; ((with_reducible refine (Try.Builder_String_any_k B B (acc ++ [34]) _ HI4.out (Nat.le_of_lt (bld_lt HI4.out))).mono ?_)); rintro e w5 ⟨rfl, _, hb5, _⟩; have HB5 := Aside0.mk (HB4.out.trans hb5); clear hb5))
      go_ret
      exact ⟨by rw [HFIN.out]; rfl, HB5.out⟩
    | succ k1 =>
      have hi : i < s.size := by omega
      obtain ⟨x, hx⟩ : ∃ x, s[i]'hi = x := ⟨_, rfl⟩
      have HS := Aside0.mk (qacc_succ s i x hi hx)
      rw [hacc] at HI hal HS
      clear hacc HI3 HB3
      have d1 : decide ((i : Int) < (s.size : Int)) = true := decide_eq_true (by omega)
      have p1 : (0 ≤ (i : Int)) = True := eq_true (by omega)
      have q1 : ((i : Int) < (s.size : Int)) = True := eq_true (by omega)
      have hxl := x.toNat_lt
      have n1 : acc.length + 1 ≤ 140737488355328 := by omega
      have n2 : (acc ++ [92]).length + 1 ≤ 140737488355328 := by simp; omega
      have n3 : acc.length + 2 ≤ 140737488355328 := by omega
      have tell : ∀ y : UInt8, ((x.toNat : Int) == ((y.toNat : Nat) : Int)) = decide (x = y) := fun y => by
        rw [Bool.eq_iff_iff, beq_iff_eq, decide_eq_true_iff]
        exact byte_eq_iff x y
      have t34 : ((x.toNat : Int) == 34) = decide (x = 34) := tell 34
      have t92 : ((x.toNat : Int) == 92) = decide (x = 92) := tell 92
      have t10 : ((x.toNat : Int) == 10) = decide (x = 10) := tell 10
      have t9 : ((x.toNat : Int) == 9) = decide (x = 9) := tell 9
      clear tell
      by_cases h1 : x = 34 ∨ x = 92
      · have hq : qesc x = [92] ++ [x] := by unfold qesc; rw [if_pos h1]; rfl
        have HQ := Aside0.mk hq
        clear hq
        rcases h1 with h1 | h1
        · rw [decide_eq_true h1] at t34
          clear h1 t92 t10 t9
          go_wp2_with (first | (go_at_call 37; ((with_reducible refine (Try.WriteByte_k B B (byteCells acc) 92 _ HI.out (by rw [byteCells_length]; exact n1) (Nat.le_of_lt (bld_lt HI.out))).mono ?_)); rintro e w4 ⟨rfl, hI4, hb4, _⟩; have HI4 := Aside0.mk (bld_byte (x := 92) hI4); have HB4 := Aside0.mk (HB.out.trans hb4); clear hI4 hb4) | (go_at_call 37; ((with_reducible refine (Try.WriteByte_k B B (byteCells (acc ++ [92])) (x.toNat) _ HI4.out (by rw [byteCells_length]; exact n2) (Nat.le_of_lt (bld_lt HI4.out))).mono ?_)); rintro e w5 ⟨rfl, hI5, hb5, _⟩; have HI5 := Aside0.mk (bld_byte hI5); have HB5 := Aside0.mk (HB4.out.trans hb5); clear hI5 hb5))
          go_roundg k1
          case measure => omega
          case rel => exact ⟨i + 1, by omega, by go_num, ⟨by rw [HS.out, HQ.out, ← List.append_assoc]; exact HI5.out⟩, HB5⟩
        · have h34 : ¬ x = 34 := by rw [h1]; decide
          rw [decide_eq_true h1] at t92
          rw [decide_eq_false h34] at t34
          clear h1 h34 t10 t9
          go_wp2_with (first | (go_at_call 37; ((with_reducible refine (Try.WriteByte_k B B (byteCells acc) 92 _ HI.out (by rw [byteCells_length]; exact n1) (Nat.le_of_lt (bld_lt HI.out))).mono ?_)); rintro e w4 ⟨rfl, hI4, hb4, _⟩; have HI4 := Aside0.mk (bld_byte (x := 92) hI4); have HB4 := Aside0.mk (HB.out.trans hb4); clear hI4 hb4) | (go_at_call 37; ((with_reducible refine (Try.WriteByte_k B B (byteCells (acc ++ [92])) (x.toNat) _ HI4.out (by rw [byteCells_length]; exact n2) (Nat.le_of_lt (bld_lt HI4.out))).mono ?_)); rintro e w5 ⟨rfl, hI5, hb5, _⟩; have HI5 := Aside0.mk (bld_byte hI5); have HB5 := Aside0.mk (HB4.out.trans hb5); clear hI5 hb5))
          go_roundg k1
          case measure => omega
          case rel => exact ⟨i + 1, by omega, by go_num, ⟨by rw [HS.out, HQ.out, ← List.append_assoc]; exact HI5.out⟩, HB5⟩
      · have h34 : ¬ x = 34 := fun h => h1 (.inl h)
        have h92 : ¬ x = 92 := fun h => h1 (.inr h)
        rw [decide_eq_false h34] at t34
        rw [decide_eq_false h92] at t92
        by_cases h10 : x = 10
        · have HQ := Aside0.mk (show qesc x = [92, 110] from by unfold qesc; rw [if_neg h1, if_pos h10])
          rw [decide_eq_true h10] at t10
          clear h1 h34 h92 h10 t9
          go_wp2_with (go_at_call 39; refine (Try.WriteString_k B B (byteCells acc) (⟨#[92, 110]⟩ : ByteArray) _ HI.out (by rw [byteCells_length]; exact n3) (Nat.le_of_lt (bld_lt HI.out))).mono ?_; rintro e w4 ⟨rfl, hI4, hb4, _⟩; have HI4 := Aside0.mk (bld_text hI4); have HB4 := Aside0.mk (HB.out.trans hb4); clear hI4 hb4)
          go_roundg k1
          case measure => omega
          case rel => exact ⟨i + 1, by omega, by go_num, ⟨by rw [HS.out, HQ.out]; exact HI4.out⟩, HB4⟩
        · rw [decide_eq_false h10] at t10
          by_cases h9 : x = 9
          · have HQ := Aside0.mk (show qesc x = [92, 116] from by unfold qesc; rw [if_neg h1, if_neg h10, if_pos h9])
            rw [decide_eq_true h9] at t9
            clear h1 h34 h92 h10 h9
            go_wp2_with (go_at_call 39; refine (Try.WriteString_k B B (byteCells acc) (⟨#[92, 116]⟩ : ByteArray) _ HI.out (by rw [byteCells_length]; exact n3) (Nat.le_of_lt (bld_lt HI.out))).mono ?_; rintro e w4 ⟨rfl, hI4, hb4, _⟩; have HI4 := Aside0.mk (bld_text hI4); have HB4 := Aside0.mk (HB.out.trans hb4); clear hI4 hb4)
            go_roundg k1
            case measure => omega
            case rel => exact ⟨i + 1, by omega, by go_num, ⟨by rw [HS.out, HQ.out]; exact HI4.out⟩, HB4⟩
          · have HQ := Aside0.mk (show qesc x = [x] from by unfold qesc; rw [if_neg h1, if_neg h10, if_neg h9])
            rw [decide_eq_false h9] at t9
            clear h1 h34 h92 h10 h9
            go_wp2_with (go_at_call 37; ((with_reducible refine (Try.WriteByte_k B B (byteCells acc) (x.toNat) _ HI.out (by rw [byteCells_length]; exact n1) (Nat.le_of_lt (bld_lt HI.out))).mono ?_)); rintro e w4 ⟨rfl, hI4, hb4, _⟩; have HI4 := Aside0.mk (bld_byte hI4); have HB4 := Aside0.mk (HB.out.trans hb4); clear hI4 hb4)
            go_roundg k1
            case measure => omega
            case rel => exact ⟨i + 1, by omega, by go_num, ⟨by rw [HS.out, HQ.out]; exact HI4.out⟩, HB4⟩
end Go.Proofs.Ytdkkgeibifpgiaa.Rc
namespace Go.Proofs.Ytdkkgeibifpgiaa.Q
open Go.RowKit Go.Proofs.YtdkkgeibifpgiaaW.PrintWords Go.Proofs.Ytdkkgeibifpgiaa.Bytes Go.Proofs.Ytdkkgeibifpgiaa.Rc
def recipe_quote.f (a0 : ByteArray) : Option ByteArray := if a0.size ≤ 17592186044416 then some ⟨(quoteL (bs a0)).toArray⟩ else none
theorem recipe_quote.calls (a0 : ByteArray) (r : ByteArray) (w : World) (h : recipe_quote.f a0 = some r) :
    Calls Try.prog 29 #[.string a0] w fun e w' => e = .returned (.string r) ∧ Below w.heap.size w w' := by
  unfold recipe_quote.f at h
  split at h
  case isFalse => cases h
  case isTrue hc =>
    obtain rfl := Option.some.inj h
    exact quote_calls a0 w hc
end Go.Proofs.Ytdkkgeibifpgiaa.Q
/- By a program of this session's: a plain Lean function for a Go function, and its contract. -/
namespace Go.Proofs.Ytdkkgeibifpgiaa.Q
open Go.RowKit Go.Proofs.YtdkkgeibifpgiaaW.PrintWords Go.Proofs.YtdkkgeibifpgiaaW.PrintLast Go.Proofs.YtdkkgeibifpgiaaW.PrintMore
attribute [local go_sem] max2_int min2_int max_two min_two max_three min_three max_four min_four Go.Proofs.Ytdkkgeibifpgiaa.Ord.str_leq Go.Proofs.Ytdkkgeibifpgiaa.Ord.str_gtr Go.Proofs.Ytdkkgeibifpgiaa.Ord.str_geq   -- for this text's walks alone
set_option linter.unusedVariables false
set_option linter.unusedSimpArgs false

/-! ### recipe_quoted: function 28 -/
def recipe_quoted.l0 : Nat → List ByteArray → List ByteArray → Int → Int → Option (ByteArray)
  | 0, _, _, _, _ => none
  | k + 1, x3, x9, x10, x11 => if x11 < x10 then (if 0 ≤ x11 then (if x11 < (x9.length : Int) then ((recipe_quote.f (rdOf ByteArray.empty x9 x11)).bind fun t110 => (if x3.length < 8796093022208 then (recipe_quoted.l0 k (x3 ++ [t110]) x9 x10 (wrap64 (x11 + 1))) else (none))) else (none)) else (none)) else ((strings_Join.f x3 (⟨#[44]⟩ : ByteArray)).bind fun t114 => (some t114))
def recipe_quoted.f (k : Nat) (l0 : List ByteArray) : Option (ByteArray) := if 0 ≤ (l0.length : Int) then (if ((l0.length : Int) : Int).toNat ≤ 17592186044416 then (recipe_quoted.l0 k (([] : List ByteArray)) l0 (l0.length : Int) 0) else (none)) else (none)
theorem recipe_quoted.mono_l : ∀ k, (∀ y0 y1 y2 y3, LeO (recipe_quoted.l0 k y0 y1 y2 y3) (recipe_quoted.l0 (k + 1) y0 y1 y2 y3))
  | 0 => fun _ _ _ _ r h => by simp [recipe_quoted.l0] at h
  | k + 1 => by
    have ih0 := recipe_quoted.mono_l k
    · intro y0 y1 y2 y3
      unfold recipe_quoted.l0
      repeat' first
      | (with_reducible exact ih0 _ _ _ _)
      | (with_reducible exact LeO.refl _)
      | (with_reducible exact LeO.none _)
      | (with_reducible refine LeO.ite ?_ ?_)
      | (with_reducible refine LeO.bind ?_ (fun _ => ?_))
      | exact ih0 _ _ _ _
      | exact LeO.none _
      | refine LeO.ite ?_ ?_
      | refine LeO.bind ?_ (fun _ => ?_)
theorem recipe_quoted.mono : ∀ a0 k, LeO (recipe_quoted.f k a0) (recipe_quoted.f (k + 1) a0) := by
  intro a0 k
  have ih0 := recipe_quoted.mono_l k
  unfold recipe_quoted.f
  repeat' first
      | (with_reducible exact ih0 _ _ _ _)
      | (with_reducible exact LeO.refl _)
      | (with_reducible exact LeO.none _)
      | (with_reducible refine LeO.ite ?_ ?_)
      | (with_reducible refine LeO.bind ?_ (fun _ => ?_))
      | exact ih0 _ _ _ _
      | exact LeO.none _
      | refine LeO.ite ?_ ?_
      | refine LeO.bind ?_ (fun _ => ?_)
set_option maxHeartbeats 8000000 in
set_option maxRecDepth 100000 in
theorem recipe_quoted.calls (k : Nat) (A0 : Option Addr) (c0 : Nat) (l0 : List ByteArray) (r : ByteArray) (w : World) (hr0 : Kd.C Kd.string w A0 l0.length l0) (hc0 : l0.length ≤ c0) (h : recipe_quoted.f k l0 = some r) :
    Calls Try.prog 28 #[.slice A0 l0.length c0] w fun e w' => e = .returned (.string r) ∧ Below w.heap.size w w' := by
  have HR0 := Aside0.mk hr0
  have HC0 := Aside0.mk hc0
  clear hr0 hc0
  have HB := Aside0.mk (Below.refl w.heap.size w)
  have H : (if 0 ≤ (l0.length : Int) then (if ((l0.length : Int) : Int).toNat ≤ 17592186044416 then (recipe_quoted.l0 k (([] : List ByteArray)) l0 (l0.length : Int) 0) else (none)) else (none)) = some r := h
  clear h
  by_cases c2 : 0 ≤ (l0.length : Int)
  · rw [if_pos c2] at H
    have c2b0 := eq_true c2
    have c2b1 : decide (0 ≤ (l0.length : Int)) = true := decide_eq_true c2
    clear c2
    by_cases c3 : ((l0.length : Int) : Int).toNat ≤ 17592186044416
    · rw [if_pos c3] at H
      have c3b0 := eq_true c3
      have c3b1 : decide (((l0.length : Int) : Int).toNat ≤ 17592186044416) = true := decide_eq_true c3
      clear c3
      obtain ⟨y106, hy106⟩ : ∃ y_ : List ByteArray, y_ = (([] : List ByteArray)) := ⟨_, rfl⟩
      replace H : (recipe_quoted.l0 k y106 l0 (l0.length : Int) 0) = some r := by first | (rw [hy106]; with_reducible exact H) | (have H2_ := (Option.bind_some _ _).symm.trans H; rw [hy106]; with_reducible exact H2_) | (have H2_ := (Option.bind_some _ _).symm.trans H; with_reducible exact H2_) | with_reducible exact H | (rw [hy106]; exact H) | exact H
      have Ny106 := Aside0.mk hy106
      clear hy106
      have H' := Aside0.mk H
      clear H
      go_enter Try.func28, Try.ntmps28
      go_wp2_with (first | ((with_reducible refine gate_dst (N := 8) rfl ?_); refine Kd.R_make0 Kd.string _ 9 rfl (N := 8) rfl 23 _ _ rfl (l0.length : Int) rfl rfl Try.underlying23 (.string ⟨#[]⟩) 16 info9 rfl (by decide) (by omega) (⟨#[]⟩ : ByteArray) (ok := fun _ => True) (okp := fun _ => True) rfl (fun _ hk => hk) trivial (of_decide_eq_true (by first | (with_reducible assumption) | assumption)) (Nat.le_trans (Nat.mul_le_mul_right _ (of_decide_eq_true (by first | (with_reducible assumption) | assumption) : (l0.length : Int).toNat ≤ 17592186044416)) (by omega)) (Below.refl _ _) (Nat.le_refl _) ?_; intro v107 w4 ho5 hb hg_ hnew_; clear hg_ hnew_; (first | rw [← Ny106.out] at ho5 | (simp only [Int.reduceToNat] at ho5; rw [← Ny106.out] at ho5)); have n0_ := Aside0.mk (Kd.R_lower ho5 (below_size (by repeat (first | (with_reducible first | exact HB.out | apply below_alloc | apply pw_below_drewN | apply below_drew1) | exact HB.out)))); have n1_ := Aside0.mk (below_step (by repeat (first | (with_reducible first | exact HB.out | apply below_alloc | apply pw_below_drewN | apply below_drew1) | exact HB.out)) hb); clear HB; have HO108 := n0_; have HB := n1_; clear n0_ n1_; clear hb ho5))
      go_loopg [3, 11] k (fun kq v3 v11 w' => ∃ (x3_1 : List ByteArray) (x11_1 : Int), v11 = .int .i64 x11_1 ∧ Aside0 (recipe_quoted.l0 kq x3_1 l0 (l0.length : Int) x11_1 = some r) ∧ Aside0 (kq ≤ k) ∧ Aside0 (Kd.R Kd.string 9 w' w.heap.size (fun _ => True) v3 x3_1) ∧ Aside0 (Below w.heap.size w w'))
      case atStart => exact ⟨(y106), (0), (by first | rfl | (simp; done) | (simp [*]; done)), H', ⟨Nat.le_refl _⟩, ⟨by (with_reducible repeat (first | apply Kd.R_alloc | apply Kd.R_drewN | apply Kd.R_drew)); exact HO108.out⟩, ⟨by repeat (first | (with_reducible first | exact HB.out | apply below_alloc | apply pw_below_drewN | apply below_drew1) | exact HB.out)⟩⟩
      case round =>
        clear H'
        try clear c2
        try clear c2b0
        try clear c2b1
        try clear p2
        try clear c3
        try clear c3b0
        try clear c3b1
        obtain ⟨x3_1, x11_1, rfl, HA, HK1, HO_3, HB⟩ := hrel
        cases gk with
        | zero => exact absurd HA.out (by simp [recipe_quoted.l0])
        | succ k1 =>
          have H := HA.out
          clear HA
          simp only [recipe_quoted.l0] at H
          by_cases c6 : x11_1 < (l0.length : Int)
          · rw [if_pos c6] at H
            have c6b0 : decide (x11_1 < (l0.length : Int)) = true := decide_eq_true c6
            clear c6
            by_cases c7 : 0 ≤ x11_1
            · rw [if_pos c7] at H
              have c7b0 : decide (0 ≤ x11_1) = true := decide_eq_true c7
              clear c7
              by_cases c8 : x11_1 < (l0.length : Int)
              · rw [if_pos c8] at H
                have c8b0 : decide (x11_1 < (l0.length : Int)) = true := decide_eq_true c8
                clear c8
                replace H := Option.bind_eq_some_iff.mp H
                obtain ⟨t110, A90, H⟩ := H
                replace H : (if x3_1.length < 8796093022208 then (recipe_quoted.l0 k1 (x3_1 ++ [t110]) l0 (l0.length : Int) (wrap64 (x11_1 + 1))) else (none)) = some r := H
                have A9 := Aside0.mk A90
                clear A90
                by_cases c10 : x3_1.length < 8796093022208
                · rw [if_pos c10] at H
                  have LMc10 := Aside0.mk c10
                  clear c10
                  obtain ⟨y111, hy111⟩ : ∃ y_ : List ByteArray, y_ = (x3_1 ++ [t110]) := ⟨_, rfl⟩
                  replace H : (recipe_quoted.l0 k1 y111 l0 (l0.length : Int) (wrap64 (x11_1 + 1))) = some r := by first | (rw [hy111]; with_reducible exact H) | (have H2_ := (Option.bind_some _ _).symm.trans H; rw [hy111]; with_reducible exact H2_) | (have H2_ := (Option.bind_some _ _).symm.trans H; with_reducible exact H2_) | with_reducible exact H | (rw [hy111]; exact H) | exact H
                  have Ny111 := Aside0.mk hy111
                  clear hy111
                  have H' := Aside0.mk H
                  clear H
                  have p109 : 0 ≤ (x11_1 : Int) := of_decide_eq_true (by first | (with_reducible assumption) | assumption)
                  have q109 : x11_1 < (l0.length : Int) := of_decide_eq_true (by first | (with_reducible assumption) | assumption)
                  obtain ⟨ad109, e109, hx109_0⟩ := Kd.at_string HR0.out x11_1 p109 q109
                  cases e109
                  replace hx109_0 := (HB.out.cell (World.block_lt_of_cell? w _ hx109_0)).trans hx109_0
                  replace p109 := eq_true p109
                  replace q109 := eq_true q109
                  go_wp2_with (first | ((with_reducible refine gate_callee (f := 29) rfl ?_); refine goesL_ (some 17) rfl rfl Try.func29 (by kernel_rfl) rfl #[.string (rdOf ByteArray.empty l0 x11_1)] rfl (by (try simp only [List.map_toArray, List.map_cons, List.map_nil]); first | done | rfl | (simp only [List.length_drop, List.length_take]; rfl)) ?_; (with_reducible refine (recipe_quote.calls (rdOf ByteArray.empty l0 x11_1) t110 _ A9.out).mono ?_); rintro e w11 ⟨rfl, hb⟩; refine ⟨_, rfl, ?_⟩; have n0_ := Aside0.mk (Kd.R_below (by (with_reducible repeat (first | apply Kd.R_alloc | apply Kd.R_drewN | apply Kd.R_drew)); exact HO_3.out) hb); have n1_ := Aside0.mk (below_step (by repeat (first | (with_reducible first | exact HB.out | apply below_alloc | apply pw_below_drewN | apply below_drew1) | exact HB.out)) hb); clear HO_3; clear HB; have HO_3 := n0_; have HB := n1_; clear n0_ n1_; (try clear hb); (try clear hb2); (try clear hk); (try clear hi)) | ((with_reducible refine gate_builtin (b := .append) (xs := #[.tmp 15, .tmp 18]) rfl ?_); at_builtin; refine Kd.R_append Kd.string (w0 := w) w.heap.size rfl (.tmp 15) (.tmp 18) 23 9 (.string ⟨#[]⟩) 16 rfl Try.underlying23 info9 rfl (by decide) (by omega) u3 x3_1 t110 [.string t110] (fun _ => True) (fun _ => False) rfl rfl ?aP (fun _ hk => hk.elim) ?aF ?aO ?aB ?aS ?aL ?_; (case aP => exact rfl); (case aB => exact (by repeat (first | (with_reducible first | exact HB.out | apply below_alloc | apply pw_below_drewN | apply below_drew1) | exact HB.out))); (case aF => exact (fun _ _ => trivial)); (case aO => exact (by (with_reducible repeat (first | apply Kd.R_alloc | apply Kd.R_drewN | apply Kd.R_drew)); exact HO_3.out)); (case aS => exact (below_size (by repeat (first | (with_reducible first | exact HB.out | apply below_alloc | apply pw_below_drewN | apply below_drew1) | exact HB.out)))); (case aL => have := LMc10.out; omega); intro v112 w12 ho hb hg hat; rw [← Ny111.out] at ho; have n0_ := Aside0.mk (hb); have n1_ := Aside0.mk (ho); clear HB; clear HO_3; have HB := n0_; have HO113 := n1_; clear n0_ n1_; clear ho hb hg hat))
                  go_roundg k1
                  case measure => have := HK1.out; omega
                  case rel => exact ⟨(y111), (wrap64 (x11_1 + 1)), (by first | rfl | (simp; done) | (simp [*]; done)), H', ⟨by have := HK1.out; omega⟩, ⟨by (with_reducible repeat (first | apply Kd.R_alloc | apply Kd.R_drewN | apply Kd.R_drew)); exact HO113.out⟩, ⟨by repeat (first | (with_reducible first | exact HB.out | apply below_alloc | apply pw_below_drewN | apply below_drew1) | exact HB.out)⟩⟩
                · rw [if_neg c10] at H
                  exact absurd H (by simp)
              · rw [if_neg c8] at H
                exact absurd H (by simp)
            · rw [if_neg c7] at H
              exact absurd H (by simp)
          · rw [if_neg c6] at H
            have c6b0 : decide (x11_1 < (l0.length : Int)) = false := decide_eq_false c6
            clear c6
            replace H := Option.bind_eq_some_iff.mp H
            obtain ⟨t114, A130, H⟩ := H
            replace H : (some t114) = some r := H
            have A13 := Aside0.mk A130
            clear A130
            obtain rfl := Option.some.inj H
            obtain ⟨Ao14, co14, eo14⟩ := Kd.R_slice HO_3.out
            subst eo14
            go_wp2_with (first | ((with_reducible refine gate_callee (f := 30) rfl ?_); refine goesL_ (some 22) rfl rfl Try.func30 (by kernel_rfl) rfl #[.slice Ao14 x3_1.length co14, .string (⟨#[44]⟩ : ByteArray)] rfl (by (try simp only [List.map_toArray, List.map_cons, List.map_nil]); first | done | rfl | (simp only [List.length_drop, List.length_take]; rfl)) ?_; (with_reducible refine (strings_Join.calls _ _ x3_1 (⟨#[44]⟩ : ByteArray) t114 _ ?side1 ?side2 A13.out).mono ?_); (case side1 => repeat (first | exact (Kd.R_reads' HO_3.out).2.2 | (with_reducible refine Kd.C_alloc ?_ _) | (with_reducible refine Kd.C_drewN ?_ _) | (with_reducible refine Kd.C_drew ?_))); (case side2 => exact (Kd.R_reads' HO_3.out).2.1); rintro e w15 ⟨rfl, hb⟩; refine ⟨_, rfl, ?_⟩; have n0_ := Aside0.mk (Kd.R_below (by (with_reducible repeat (first | apply Kd.R_alloc | apply Kd.R_drewN | apply Kd.R_drew)); exact HO_3.out) hb); have n1_ := Aside0.mk (below_step (by repeat (first | (with_reducible first | exact HB.out | apply below_alloc | apply pw_below_drewN | apply below_drew1) | exact HB.out)) hb); clear HO_3; clear HB; have HO_3 := n0_; have HB := n1_; clear n0_ n1_; (try clear hb); (try clear hb2); (try clear hk); (try clear hi)))
            go_ret
            exact ⟨by first | rfl | (simp [errW_none, errW_some] <;> rfl) | (simp [*, errW_none, errW_some] <;> rfl), by repeat (first | (with_reducible first | exact HB.out | apply below_alloc | apply pw_below_drewN | apply below_drew1) | exact HB.out)⟩
    · rw [if_neg c3] at H
      exact absurd H (by simp)
  · rw [if_neg c2] at H
    exact absurd H (by simp)

end Go.Proofs.Ytdkkgeibifpgiaa.Q
/- By a program of this session's: a plain Lean function for a Go function, and its contract. -/
namespace Go.Proofs.Ytdkkgeibifpgiaa.Q
open Go.RowKit Go.Proofs.YtdkkgeibifpgiaaW.PrintWords Go.Proofs.YtdkkgeibifpgiaaW.PrintLast Go.Proofs.YtdkkgeibifpgiaaW.PrintMore
attribute [local go_sem] max2_int min2_int max_two min_two max_three min_three max_four min_four Go.Proofs.Ytdkkgeibifpgiaa.Ord.str_leq Go.Proofs.Ytdkkgeibifpgiaa.Ord.str_gtr Go.Proofs.Ytdkkgeibifpgiaa.Ord.str_geq   -- for this text's walks alone
set_option linter.unusedVariables false
set_option linter.unusedSimpArgs false

/-! ### recipe_Print: function 14 -/
def recipe_Print.l0 : Nat → List ByteArray → List (S47) → Int → Int → ByteArray → List ByteArray → List (S47) → Option (ByteArray)
  | 0, _, _, _, _, _, _, _ => none
  | k + 1, x3, x11, x12, x13, x116000, x116001, x116002 => if x13 < x12 then (if 0 ≤ x13 then (if x13 < (x11.length : Int) then ((some (([(rd_T47 x11 x13).f0] : List ByteArray) : List ByteArray)).bind fun y121 => (if y121.length + ((rd_T47 x11 x13).f1).length < 8796093022208 then ((recipe_quoted.f k (y121 ++ ((rd_T47 x11 x13).f1))).bind fun t127 => (if 1 + t127.size ≤ 9223372036854775807 then (if ((⟨#[40]⟩ : ByteArray) ++ t127).size + 1 ≤ 9223372036854775807 then (if x3.length < 8796093022208 then (recipe_Print.l0 k (x3 ++ [((⟨#[40]⟩ : ByteArray) ++ t127) ++ (⟨#[41]⟩ : ByteArray)]) x11 x12 (wrap64 (x13 + 1)) x116000 x116001 x116002) else (none)) else (none)) else (none))) else (none))) else (none)) else (none)) else ((recipe_quote.f x116000).bind fun t131 => (if 7 + t131.size ≤ 9223372036854775807 then (if ((⟨#[82, 101, 99, 105, 112, 101, 40]⟩ : ByteArray) ++ t131).size + 2 ≤ 9223372036854775807 then ((recipe_quoted.f k x116001).bind fun t132 => (if (((⟨#[82, 101, 99, 105, 112, 101, 40]⟩ : ByteArray) ++ t131) ++ (⟨#[44, 91]⟩ : ByteArray)).size + t132.size ≤ 9223372036854775807 then (if ((((⟨#[82, 101, 99, 105, 112, 101, 40]⟩ : ByteArray) ++ t131) ++ (⟨#[44, 91]⟩ : ByteArray)) ++ t132).size + 3 ≤ 9223372036854775807 then ((strings_Join.f x3 (⟨#[44]⟩ : ByteArray)).bind fun t133 => (if (((((⟨#[82, 101, 99, 105, 112, 101, 40]⟩ : ByteArray) ++ t131) ++ (⟨#[44, 91]⟩ : ByteArray)) ++ t132) ++ (⟨#[93, 44, 91]⟩ : ByteArray)).size + t133.size ≤ 9223372036854775807 then (if ((((((⟨#[82, 101, 99, 105, 112, 101, 40]⟩ : ByteArray) ++ t131) ++ (⟨#[44, 91]⟩ : ByteArray)) ++ t132) ++ (⟨#[93, 44, 91]⟩ : ByteArray)) ++ t133).size + 2 ≤ 9223372036854775807 then (some (((((((⟨#[82, 101, 99, 105, 112, 101, 40]⟩ : ByteArray) ++ t131) ++ (⟨#[44, 91]⟩ : ByteArray)) ++ t132) ++ (⟨#[93, 44, 91]⟩ : ByteArray)) ++ t133) ++ (⟨#[93, 41]⟩ : ByteArray))) else (none)) else (none))) else (none)) else (none))) else (none)) else (none)))
def recipe_Print.f (k : Nat) (a0_0 : ByteArray) (l0_1 : List ByteArray) (l0_2 : List (S47)) : Option (ByteArray) := if 0 ≤ (l0_2.length : Int) then (if ((l0_2.length : Int) : Int).toNat ≤ 17592186044416 then (recipe_Print.l0 k (([] : List ByteArray)) l0_2 (l0_2.length : Int) 0 a0_0 l0_1 l0_2) else (none)) else (none)
theorem recipe_Print.mono_l : ∀ k, (∀ y0 y1 y2 y3 y4 y5 y6, LeO (recipe_Print.l0 k y0 y1 y2 y3 y4 y5 y6) (recipe_Print.l0 (k + 1) y0 y1 y2 y3 y4 y5 y6))
  | 0 => fun _ _ _ _ _ _ _ r h => by simp [recipe_Print.l0] at h
  | k + 1 => by
    have ih0 := recipe_Print.mono_l k
    · intro y0 y1 y2 y3 y4 y5 y6
      unfold recipe_Print.l0
      repeat' first
      | (with_reducible exact ih0 _ _ _ _ _ _ _)
      | (with_reducible exact recipe_quoted.mono _ _)
      | (with_reducible exact LeO.refl _)
      | (with_reducible exact LeO.none _)
      | (with_reducible refine LeO.ite ?_ ?_)
      | (with_reducible refine LeO.bind ?_ (fun _ => ?_))
      | exact ih0 _ _ _ _ _ _ _
      | exact recipe_quoted.mono _ _
      | exact LeO.none _
      | refine LeO.ite ?_ ?_
      | refine LeO.bind ?_ (fun _ => ?_)
theorem recipe_Print.mono : ∀ a0 a1 a2 k, LeO (recipe_Print.f k a0 a1 a2) (recipe_Print.f (k + 1) a0 a1 a2) := by
  intro a0 a1 a2 k
  have ih0 := recipe_Print.mono_l k
  unfold recipe_Print.f
  repeat' first
      | (with_reducible exact ih0 _ _ _ _ _ _ _)
      | (with_reducible exact recipe_quoted.mono _ _)
      | (with_reducible exact LeO.refl _)
      | (with_reducible exact LeO.none _)
      | (with_reducible refine LeO.ite ?_ ?_)
      | (with_reducible refine LeO.bind ?_ (fun _ => ?_))
      | exact ih0 _ _ _ _ _ _ _
      | exact recipe_quoted.mono _ _
      | exact LeO.none _
      | refine LeO.ite ?_ ?_
      | refine LeO.bind ?_ (fun _ => ?_)
def recipe_Print.T7 : Bool × List (List Nat × List Nat) := (true, [([], []), ([0], [0]), ([1], [1]), ([2], [2]), ([3], [3]), ([], []), ([5], [5]), ([6, 2], [6]), ([4, 7], [4, 7]), ([8], [8]), ([], []), ([10, 7], [10]), ([9, 11], [9, 11]), ([12], [12]), ([13, 11, 0, 1, 2, 3, 4, 5, 6, 7, 8, 9, 10, 11, 12, 13], [13])])
def recipe_Print.B7 : List Nat := [0, 1, 3, 7, 15, 0, 32, 103, 255, 511, 0, 1255, 4095, 8191, 16383]
theorem recipe_Print.tab7 : rtab .any (opsOf Try.f14 7) = recipe_Print.T7 := by kernel_rfl
theorem recipe_Print.bits7 : waitsOk recipe_Print.T7.2 recipe_Print.B7 = true := by kernel_rfl
set_option maxHeartbeats 8000000 in
set_option maxRecDepth 100000 in
theorem recipe_Print.calls (k : Nat) (a0_0 : ByteArray) (A0_1 : Option Addr) (c0_1 : Nat) (l0_1 : List ByteArray) (A0_2 : Option Addr) (c0_2 : Nat) (l0_2 : List (S47)) (r : ByteArray) (w : World) (hr0_1 : Kd.C Kd.string w A0_1 l0_1.length l0_1) (hc0_1 : l0_1.length ≤ c0_1) (hr0_2 : Kd.C k47 w A0_2 l0_2.length l0_2) (hc0_2 : l0_2.length ≤ c0_2) (h : recipe_Print.f k a0_0 l0_1 l0_2 = some r) :
    Calls Try.prog 14 #[.agg #[.string a0_0, .slice A0_1 l0_1.length c0_1, .slice A0_2 l0_2.length c0_2]] w fun e w' => e = .returned (.string r) ∧ Below w.heap.size w w' := by
  have hu26 := Try.underlying26
  have hu47 := Try.underlying47
  have HR0_1 := Aside0.mk hr0_1
  have HC0_1 := Aside0.mk hc0_1
  clear hr0_1 hc0_1
  have HR0_2 := Aside0.mk hr0_2
  have HC0_2 := Aside0.mk hc0_2
  clear hr0_2 hc0_2
  have HB := Aside0.mk (Below.refl w.heap.size w)
  have H : (if 0 ≤ (l0_2.length : Int) then (if ((l0_2.length : Int) : Int).toNat ≤ 17592186044416 then (recipe_Print.l0 k (([] : List ByteArray)) l0_2 (l0_2.length : Int) 0 a0_0 l0_1 l0_2) else (none)) else (none)) = some r := h
  clear h
  by_cases c2 : 0 ≤ (l0_2.length : Int)
  · rw [if_pos c2] at H
    have c2b0 := eq_true c2
    have c2b1 : decide (0 ≤ (l0_2.length : Int)) = true := decide_eq_true c2
    clear c2
    by_cases c3 : ((l0_2.length : Int) : Int).toNat ≤ 17592186044416
    · rw [if_pos c3] at H
      have c3b0 := eq_true c3
      have c3b1 : decide (((l0_2.length : Int) : Int).toNat ≤ 17592186044416) = true := decide_eq_true c3
      clear c3
      obtain ⟨y116, hy116⟩ : ∃ y_ : List ByteArray, y_ = (([] : List ByteArray)) := ⟨_, rfl⟩
      replace H : (recipe_Print.l0 k y116 l0_2 (l0_2.length : Int) 0 a0_0 l0_1 l0_2) = some r := by first | (rw [hy116]; with_reducible exact H) | (have H2_ := (Option.bind_some _ _).symm.trans H; rw [hy116]; with_reducible exact H2_) | (have H2_ := (Option.bind_some _ _).symm.trans H; with_reducible exact H2_) | with_reducible exact H | (rw [hy116]; exact H) | exact H
      have Ny116 := Aside0.mk hy116
      clear hy116
      have H' := Aside0.mk H
      clear H
      go_enter Try.func14, Try.ntmps14
      go_wp2_with (first | ((with_reducible refine gate_dst (N := 1) rfl ?_); refine box_event ?hg (N := 1) ?hd (cs := #[.string a0_0, .slice A0_1 l0_1.length c0_1, .slice A0_2 l0_2.length c0_2]) (t := 26) ?hr ?_; (case hd => rfl); (case hg => rfl); (case hr => first | (go_simp; done) | (go_simp; rfl)); intro gb115 hg w4 hbox hb; have n0_ := Aside0.mk (below_step (by repeat (first | (with_reducible first | exact HB.out | apply below_alloc | apply pw_below_drewN | apply below_drew1) | exact HB.out)) hb); have n1_ := Aside0.mk (hbox); have n2_ := Aside0.mk ((by rw [hg]; exact (below_size (by repeat (first | (with_reducible first | exact HB.out | apply below_alloc | apply pw_below_drewN | apply below_drew1) | exact HB.out))) : w.heap.size ≤ gb115)); have n3_ := Aside0.mk ((by rw [hg]; exact (below_size (by repeat (first | (with_reducible first | exact HB.out | apply below_alloc | apply pw_below_drewN | apply below_drew1) | exact HB.out))) : w.heap.size ≤ gb115)); clear HB; have HB := n0_; have BK115 := n1_; have GW115 := n2_; have GE115 := n3_; clear n0_ n1_ n2_ n3_; clear hb hbox hg; have hcz5_0 : w4.cell? ⟨gb115, 0, none⟩ = some (.string a0_0) := (blk_cell BK115.out 0).trans rfl; have hcz5_1 : w4.cell? ⟨gb115, 1, none⟩ = some (.slice A0_1 l0_1.length c0_1) := (blk_cell BK115.out 1).trans rfl; have hcz5_2 : w4.cell? ⟨gb115, 2, none⟩ = some (.slice A0_2 l0_2.length c0_2) := (blk_cell BK115.out 2).trans rfl; have hfz5_0 := blk_frozen BK115.out 0; have hfz5_1 := blk_frozen BK115.out 1; have hfz5_2 := blk_frozen BK115.out 2) | ((with_reducible refine gate_dst (N := 9) rfl ?_); refine Kd.R_make0 Kd.string _ 9 rfl (N := 9) rfl 23 _ _ rfl (l0_2.length : Int) rfl rfl Try.underlying23 (.string ⟨#[]⟩) 16 info9 rfl (by decide) (by omega) (⟨#[]⟩ : ByteArray) (ok := fun _ => True) (okp := fun _ => True) rfl (fun _ hk => hk) trivial (of_decide_eq_true (by first | (with_reducible assumption) | assumption)) (Nat.le_trans (Nat.mul_le_mul_right _ (of_decide_eq_true (by first | (with_reducible assumption) | assumption) : (l0_2.length : Int).toNat ≤ 17592186044416)) (by omega)) (Below.refl _ _) (Nat.le_refl _) ?_; intro v117 w6 ho7 hb hg_ hnew_; clear hg_ hnew_; (first | rw [← Ny116.out] at ho7 | (simp only [Int.reduceToNat] at ho7; rw [← Ny116.out] at ho7)); have n0_ := Aside0.mk (Kd.R_lower ho7 (below_size (by repeat (first | (with_reducible first | exact HB.out | apply below_alloc | apply pw_below_drewN | apply below_drew1 | refine below_set ?_ GE115.out) | exact HB.out)))); have n1_ := Aside0.mk (blk_below (g := gb115) (o := .cells #[.string a0_0, .slice A0_1 l0_1.length c0_1, .slice A0_2 l0_2.length c0_2] 26 (0, 0)) (by (with_reducible repeat (first | refine blk_drewN ?_ _ | refine blk_drew ?_ | refine blk_alloc ?_ _)); exact BK115.out) hb); have n2_ := Aside0.mk (below_step (by repeat (first | (with_reducible first | exact HB.out | apply below_alloc | apply pw_below_drewN | apply below_drew1 | refine below_set ?_ GE115.out) | exact HB.out)) hb); clear BK115; clear HB; have HO118 := n0_; have BK115 := n1_; have HB := n2_; clear n0_ n1_ n2_; clear hb ho7; have hcz8_0 : w6.cell? ⟨gb115, 0, none⟩ = some (.string a0_0) := (blk_cell BK115.out 0).trans rfl; have hcz8_1 : w6.cell? ⟨gb115, 1, none⟩ = some (.slice A0_1 l0_1.length c0_1) := (blk_cell BK115.out 1).trans rfl; have hcz8_2 : w6.cell? ⟨gb115, 2, none⟩ = some (.slice A0_2 l0_2.length c0_2) := (blk_cell BK115.out 2).trans rfl; have hfz8_0 := blk_frozen BK115.out 0; have hfz8_1 := blk_frozen BK115.out 1; have hfz8_2 := blk_frozen BK115.out 2))
      go_loopg [3, 13] k (fun kq v3 v13 w' => ∃ (x3_1 : List ByteArray) (x13_1 : Int), v13 = .int .i64 x13_1 ∧ Aside0 (recipe_Print.l0 kq x3_1 l0_2 (l0_2.length : Int) x13_1 a0_0 l0_1 l0_2 = some r) ∧ Aside0 (kq ≤ k) ∧ Aside0 (Kd.R Kd.string 9 w' w.heap.size (fun _ => True) v3 x3_1) ∧ Aside0 (w'.heap[gb115]? = some (.cells #[.string a0_0, (.slice A0_1 l0_1.length c0_1), (.slice A0_2 l0_2.length c0_2)] 26 (0, 0))) ∧ Aside0 (Below w.heap.size w w'))
      case atStart => exact ⟨(y116), (0), (by first | rfl | (simp; done) | (simp [*]; done)), H', ⟨Nat.le_refl _⟩, ⟨by (with_reducible repeat (first | apply Kd.R_alloc | apply Kd.R_drewN | apply Kd.R_drew)); exact HO118.out⟩, ⟨by (with_reducible repeat (first | refine blk_drewN ?_ _ | refine blk_drew ?_ | refine blk_alloc ?_ _)); exact BK115.out⟩, ⟨by repeat (first | (with_reducible first | exact HB.out | apply below_alloc | apply pw_below_drewN | apply below_drew1 | refine below_set ?_ GE115.out) | exact HB.out)⟩⟩
      case round =>
        clear H'
        try clear c1
        try clear c2
        try clear c2b0
        try clear c2b1
        try clear p2
        try clear c3
        try clear c3b0
        try clear c3b1
        try clear hcz5_0
        try clear hcz5_1
        try clear hcz5_2
        try clear hcz8_0
        try clear hcz8_1
        try clear hcz8_2
        try clear hfz5_0
        try clear hfz5_1
        try clear hfz5_2
        try clear hfz8_0
        try clear hfz8_1
        try clear hfz8_2
        obtain ⟨x3_1, x13_1, rfl, HA, HK1, HO_3, BK115, HB⟩ := hrel
        cases gk with
        | zero => exact absurd HA.out (by simp [recipe_Print.l0])
        | succ k1 =>
          have H := HA.out
          clear HA
          simp only [recipe_Print.l0] at H
          by_cases c9 : x13_1 < (l0_2.length : Int)
          · rw [if_pos c9] at H
            have c9b0 : decide (x13_1 < (l0_2.length : Int)) = true := decide_eq_true c9
            clear c9
            by_cases c10 : 0 ≤ x13_1
            · rw [if_pos c10] at H
              have c10b0 : decide (0 ≤ x13_1) = true := decide_eq_true c10
              clear c10
              by_cases c11 : x13_1 < (l0_2.length : Int)
              · rw [if_pos c11] at H
                have c11b0 : decide (x13_1 < (l0_2.length : Int)) = true := decide_eq_true c11
                clear c11
                obtain ⟨y121, hy121⟩ : ∃ y_ : List ByteArray, y_ = (([(rd_T47 l0_2 x13_1).f0] : List ByteArray)) := ⟨_, rfl⟩
                replace H : (if y121.length + ((rd_T47 l0_2 x13_1).f1).length < 8796093022208 then ((recipe_quoted.f k1 (y121 ++ ((rd_T47 l0_2 x13_1).f1))).bind fun t127 => (if 1 + t127.size ≤ 9223372036854775807 then (if ((⟨#[40]⟩ : ByteArray) ++ t127).size + 1 ≤ 9223372036854775807 then (if x3_1.length < 8796093022208 then (recipe_Print.l0 k1 (x3_1 ++ [((⟨#[40]⟩ : ByteArray) ++ t127) ++ (⟨#[41]⟩ : ByteArray)]) l0_2 (l0_2.length : Int) (wrap64 (x13_1 + 1)) a0_0 l0_1 l0_2) else (none)) else (none)) else (none))) else (none)) = some r := by first | (rw [hy121]; with_reducible exact H) | (have H2_ := (Option.bind_some _ _).symm.trans H; rw [hy121]; with_reducible exact H2_) | (have H2_ := (Option.bind_some _ _).symm.trans H; with_reducible exact H2_) | with_reducible exact H | (rw [hy121]; exact H) | exact H
                have Ny121 := Aside0.mk hy121
                clear hy121
                by_cases c12 : y121.length + ((rd_T47 l0_2 x13_1).f1).length < 8796093022208
                · rw [if_pos c12] at H
                  have LMc12 := Aside0.mk c12
                  clear c12
                  obtain ⟨y124, hy124⟩ : ∃ y_ : List ByteArray, y_ = (y121 ++ ((rd_T47 l0_2 x13_1).f1)) := ⟨_, rfl⟩
                  replace H : ((recipe_quoted.f k1 y124).bind fun t127 => (if 1 + t127.size ≤ 9223372036854775807 then (if ((⟨#[40]⟩ : ByteArray) ++ t127).size + 1 ≤ 9223372036854775807 then (if x3_1.length < 8796093022208 then (recipe_Print.l0 k1 (x3_1 ++ [((⟨#[40]⟩ : ByteArray) ++ t127) ++ (⟨#[41]⟩ : ByteArray)]) l0_2 (l0_2.length : Int) (wrap64 (x13_1 + 1)) a0_0 l0_1 l0_2) else (none)) else (none)) else (none))) = some r := by first | (rw [hy124]; with_reducible exact H) | (have H2_ := (Option.bind_some _ _).symm.trans H; rw [hy124]; with_reducible exact H2_) | (have H2_ := (Option.bind_some _ _).symm.trans H; with_reducible exact H2_) | with_reducible exact H | (rw [hy124]; exact H) | exact H
                  have Ny124 := Aside0.mk hy124
                  clear hy124
                  replace H := Option.bind_eq_some_iff.mp H
                  obtain ⟨t127, A130, H⟩ := H
                  replace H : (if 1 + t127.size ≤ 9223372036854775807 then (if ((⟨#[40]⟩ : ByteArray) ++ t127).size + 1 ≤ 9223372036854775807 then (if x3_1.length < 8796093022208 then (recipe_Print.l0 k1 (x3_1 ++ [((⟨#[40]⟩ : ByteArray) ++ t127) ++ (⟨#[41]⟩ : ByteArray)]) l0_2 (l0_2.length : Int) (wrap64 (x13_1 + 1)) a0_0 l0_1 l0_2) else (none)) else (none)) else (none)) = some r := H
                  have A13 := Aside0.mk A130
                  clear A130
                  by_cases c14 : 1 + t127.size ≤ 9223372036854775807
                  · rw [if_pos c14] at H
                    have c14b0 := eq_true c14
                    have c14b1 : decide (1 + t127.size ≤ 9223372036854775807) = true := decide_eq_true c14
                    try have c14b2 : (9223372036854775807 < 1 + t127.size) = False := eq_false (Nat.not_lt.2 c14)
                    by_cases c15 : ((⟨#[40]⟩ : ByteArray) ++ t127).size + 1 ≤ 9223372036854775807
                    · rw [if_pos c15] at H
                      have c15b0 := eq_true c15
                      have c15b1 : decide (((⟨#[40]⟩ : ByteArray) ++ t127).size + 1 ≤ 9223372036854775807) = true := decide_eq_true c15
                      try have c15b2 : (9223372036854775807 < ((⟨#[40]⟩ : ByteArray) ++ t127).size + 1) = False := eq_false (Nat.not_lt.2 c15)
                      (try have c15b4 : (9223372036854775807 < 1 + t127.size + 1) = False := by have z_ := c15; simp only [ByteArray.size_append] at z_; exact eq_false (Nat.not_lt.2 z_))
                      by_cases c16 : x3_1.length < 8796093022208
                      · rw [if_pos c16] at H
                        have LMc16 := Aside0.mk c16
                        clear c16
                        obtain ⟨y128, hy128⟩ : ∃ y_ : List ByteArray, y_ = (x3_1 ++ [((⟨#[40]⟩ : ByteArray) ++ t127) ++ (⟨#[41]⟩ : ByteArray)]) := ⟨_, rfl⟩
                        replace H : (recipe_Print.l0 k1 y128 l0_2 (l0_2.length : Int) (wrap64 (x13_1 + 1)) a0_0 l0_1 l0_2) = some r := by first | (rw [hy128]; with_reducible exact H) | (have H2_ := (Option.bind_some _ _).symm.trans H; rw [hy128]; with_reducible exact H2_) | (have H2_ := (Option.bind_some _ _).symm.trans H; with_reducible exact H2_) | with_reducible exact H | (rw [hy128]; exact H) | exact H
                        have Ny128 := Aside0.mk hy128
                        clear hy128
                        have H' := Aside0.mk H
                        clear H
                        have p119 : 0 ≤ (x13_1 : Int) := of_decide_eq_true (by first | (with_reducible assumption) | assumption)
                        have q119 : x13_1 < (l0_2.length : Int) := of_decide_eq_true (by first | (with_reducible assumption) | assumption)
                        obtain ⟨ad119, A119_1, c119_1, e119, hx119_0, hx119_1, hl119_1, hi119_1⟩ := at_T47 HR0_2.out x13_1 p119 q119
                        cases e119
                        replace hx119_0 := (HB.out.cell (World.block_lt_of_cell? w _ hx119_0)).trans hx119_0
                        replace hx119_1 := (HB.out.cell (World.block_lt_of_cell? w _ hx119_1)).trans hx119_1
                        have HR119_1 := Aside0.mk hi119_1
                        have HC119_1 := Aside0.mk hl119_1
                        clear hi119_1 hl119_1
                        replace p119 := eq_true p119
                        replace q119 := eq_true q119
                        go_wp2_with (first | ((with_reducible refine gate_dst (N := 5) rfl ?_); refine box_event ?hg (N := 5) ?hd (cs := #[.string (⟨#[]⟩ : ByteArray), .slice none 0 0]) (t := 47) ?hr ?_; (case hd => rfl); (case hg => rfl); (case hr => first | (go_simp; done) | (go_simp; rfl)); intro gb120 hg w17 hbox hb; have n0_ := Aside0.mk (Kd.R_below (by (with_reducible repeat (first | apply Kd.R_alloc | apply Kd.R_drewN | apply Kd.R_drew)); exact HO_3.out) hb); have n1_ := Aside0.mk (blk_below (g := gb115) (o := .cells #[.string a0_0, .slice A0_1 l0_1.length c0_1, .slice (some ad119) l0_2.length c0_2] 26 (0, 0)) (by (with_reducible repeat (first | refine blk_drewN ?_ _ | refine blk_drew ?_ | refine blk_alloc ?_ _)); exact BK115.out) hb); have n2_ := Aside0.mk (below_step (by repeat (first | (with_reducible first | exact HB.out | apply below_alloc | apply pw_below_drewN | apply below_drew1 | refine below_set ?_ GE115.out) | exact HB.out)) hb); have n3_ := Aside0.mk (hbox); have n4_ := Aside0.mk ((by rw [hg]; exact (below_size (by repeat (first | (with_reducible first | exact HB.out | apply below_alloc | apply pw_below_drewN | apply below_drew1 | refine below_set ?_ GE115.out) | exact HB.out))) : w.heap.size ≤ gb120)); have n5_ := Aside0.mk ((by rw [hg]; exact (below_size (by repeat (first | (with_reducible first | exact HB.out | apply below_alloc | apply pw_below_drewN | apply below_drew1 | refine below_set ?_ GE115.out) | exact HB.out))) : w.heap.size ≤ gb120)); have n6_ := Aside0.mk ((by rw [hg]; exact Nat.ne_of_lt (blk_lt (g := gb115) (o := .cells #[.string a0_0, .slice A0_1 l0_1.length c0_1, .slice (some ad119) l0_2.length c0_2] 26 (0, 0)) (by (with_reducible repeat (first | refine blk_drewN ?_ _ | refine blk_drew ?_ | refine blk_alloc ?_ _)); exact BK115.out)) : gb115 ≠ gb120)); have n7_ := Aside0.mk ((by rw [hg]; exact Nat.ne_of_gt (blk_lt (g := gb115) (o := .cells #[.string a0_0, .slice A0_1 l0_1.length c0_1, .slice (some ad119) l0_2.length c0_2] 26 (0, 0)) (by (with_reducible repeat (first | refine blk_drewN ?_ _ | refine blk_drew ?_ | refine blk_alloc ?_ _)); exact BK115.out)) : gb120 ≠ gb115)); clear HO_3; clear BK115; clear HB; have HO_3 := n0_; have BK115 := n1_; have HB := n2_; have BK120 := n3_; have GW120 := n4_; have GE120 := n5_; have NB115_120 := n6_; have NB120_115 := n7_; clear n0_ n1_ n2_ n3_ n4_ n5_ n6_ n7_; clear hb hbox hg; have hnb18 := NB120_115.out; have hnc18 := NB115_120.out; have hcz19_0 : w17.cell? ⟨gb120, 0, none⟩ = some (.string (⟨#[]⟩ : ByteArray)) := (blk_cell BK120.out 0).trans rfl; have hcz19_1 : w17.cell? ⟨gb120, 1, none⟩ = some (.slice none 0 0) := (blk_cell BK120.out 1).trans rfl; have hfz19_0 := blk_frozen BK120.out 0; have hfz19_1 := blk_frozen BK120.out 1) | ((with_reducible refine gate_dst (N := 20) rfl ?_); refine Kd.R_lit Kd.string _ 9 ?hg (N := 20) ?hd (xs := ([(rd_T47 l0_2 x13_1).f0] : List ByteArray)) (inner := [.string ((rd_T47 l0_2 x13_1).f0)]) (ok := fun _ => True) (okp := fun _ => True) ?hr ?hp (fun _ hk => hk) trivial (Below.refl _ _) (Nat.le_refl _) (by simp) ?_; (case hd => rfl); (case hg => rfl); (case hr => first | (go_simp; done) | (go_simp; rfl)); (case hp => exact (Reps.one (show Kd.M Kd.string _ _ _ ((rd_T47 l0_2 x13_1).f0) [.string ((rd_T47 l0_2 x13_1).f0)] from rfl) (Reps.none _ _))); intro v122 w20 ho21 hb hg_ hnew_; clear hg_ hnew_; (first | rw [← Ny121.out] at ho21 | (simp only [Int.reduceToNat] at ho21; rw [← Ny121.out] at ho21)); have n0_ := Aside0.mk (Kd.R_elder' (by (with_reducible repeat (first | apply Kd.R_alloc | apply Kd.R_drewN | apply Kd.R_drew)); exact (Kd.R_mono (Kd.R_far (p := ⟨gb120, 1, none⟩) (Kd.R_far (p := ⟨gb120, 0, none⟩) (Kd.R_types HO_3.out BK120.out (by decide)) (fun _ hk => hk.2) (.string ((rd_T47 l0_2 x13_1).f0))) (fun _ hk => hk.2) (.slice A119_1 ((rd_T47 l0_2 x13_1).f1).length c119_1)) (fun _ h_ => h_.1))) (Kd.R_base ho21) hb); have n1_ := Aside0.mk (Kd.R_lower (Kd.R_new' ho21 (Kd.R_lt (by (with_reducible repeat (first | apply Kd.R_alloc | apply Kd.R_drewN | apply Kd.R_drew)); exact (Kd.R_mono (Kd.R_far (p := ⟨gb120, 1, none⟩) (Kd.R_far (p := ⟨gb120, 0, none⟩) (Kd.R_types HO_3.out BK120.out (by decide)) (fun _ hk => hk.2) (.string ((rd_T47 l0_2 x13_1).f0))) (fun _ hk => hk.2) (.slice A119_1 ((rd_T47 l0_2 x13_1).f1).length c119_1)) (fun _ h_ => h_.1))))) (below_size (by repeat (first | (with_reducible first | exact HB.out | apply below_alloc | apply pw_below_drewN | apply below_drew1 | refine below_set ?_ GE115.out | refine below_set ?_ GE120.out) | exact HB.out)))); have n2_ := Aside0.mk (blk_below (g := gb115) (o := .cells #[.string a0_0, .slice A0_1 l0_1.length c0_1, .slice (some ad119) l0_2.length c0_2] 26 (0, 0)) (by (with_reducible repeat (first | refine blk_drewN ?_ _ | refine blk_drew ?_ | refine blk_alloc ?_ _)); refine blk_far ?_ NB115_120.out _; (with_reducible repeat (first | refine blk_drewN ?_ _ | refine blk_drew ?_ | refine blk_alloc ?_ _)); refine blk_far ?_ NB115_120.out _; (with_reducible repeat (first | refine blk_drewN ?_ _ | refine blk_drew ?_ | refine blk_alloc ?_ _)); exact BK115.out) hb); have n3_ := Aside0.mk (blk_below (g := gb120) (o := .cells #[.string ((rd_T47 l0_2 x13_1).f0), .slice A119_1 ((rd_T47 l0_2 x13_1).f1).length c119_1] 47 (0, 0)) (by (with_reducible repeat (first | refine blk_drewN ?_ _ | refine blk_drew ?_ | refine blk_alloc ?_ _)); refine blk_put (cs := #[.string ((rd_T47 l0_2 x13_1).f0), .slice none 0 0]) ?_ 1 _ rfl; (with_reducible repeat (first | refine blk_drewN ?_ _ | refine blk_drew ?_ | refine blk_alloc ?_ _)); refine blk_put (cs := #[.string (⟨#[]⟩ : ByteArray), .slice none 0 0]) ?_ 0 _ rfl; (with_reducible repeat (first | refine blk_drewN ?_ _ | refine blk_drew ?_ | refine blk_alloc ?_ _)); exact BK120.out) hb); have n4_ := Aside0.mk (below_step (by repeat (first | (with_reducible first | exact HB.out | apply below_alloc | apply pw_below_drewN | apply below_drew1 | refine below_set ?_ GE115.out | refine below_set ?_ GE120.out) | exact HB.out)) hb); clear HO_3; clear BK115; clear BK120; clear HB; have HO_3 := n0_; have HO123 := n1_; have BK115 := n2_; have BK120 := n3_; have HB := n4_; clear n0_ n1_ n2_ n3_ n4_; clear hb ho21; have hcz22_0 : w20.cell? ⟨gb120, 0, none⟩ = some (.string ((rd_T47 l0_2 x13_1).f0)) := (blk_cell BK120.out 0).trans rfl; have hcz22_1 : w20.cell? ⟨gb120, 1, none⟩ = some (.slice A119_1 ((rd_T47 l0_2 x13_1).f1).length c119_1) := (blk_cell BK120.out 1).trans rfl; have hfz22_0 := blk_frozen BK120.out 0; have hfz22_1 := blk_frozen BK120.out 1) | ((with_reducible refine gate_builtin (b := .append) (xs := #[.tmp 20, .tmp 22]) rfl ?_); at_builtin; refine Kd.R_append_rows Kd.string (w0 := w) w.heap.size rfl (.tmp 20) (.tmp 22) 23 9 (.string ⟨#[]⟩) 16 rfl Try.underlying23 info9 rfl (by decide) (by omega) v122 y121 ((rd_T47 l0_2 x13_1).f1) _ _ _ (fun k_ => some k_ ≠ (u3 : Value).ownBlock) (fun _ => False) rfl rfl ?aO ?aR (fun _ _ h => h) (fun _ h => h.elim) ?aF ?aB ?aS ?aL ?_; (case aR => repeat (first | exact (Kd.C_below HR119_1.out HB.out) | (with_reducible refine Kd.C_alloc ?_ _) | (with_reducible refine Kd.C_drewN ?_ _) | (with_reducible refine Kd.C_drew ?_))); (case aB => exact (by repeat (first | (with_reducible first | exact HB.out | apply below_alloc | apply pw_below_drewN | apply below_drew1 | refine below_set ?_ GE115.out | refine below_set ?_ GE120.out) | exact HB.out))); (case aF => exact (fun k_ hk => Kd.fresh' (Kd.R_lt (by (with_reducible repeat (first | apply Kd.R_alloc | apply Kd.R_drewN | apply Kd.R_drew)); exact HO_3.out)) k_ hk)); (case aO => exact (by (with_reducible repeat (first | apply Kd.R_alloc | apply Kd.R_drewN | apply Kd.R_drew)); exact Kd.R_mono HO123.out (fun _ hk => hk.2))); (case aS => exact (below_size (by repeat (first | (with_reducible first | exact HB.out | apply below_alloc | apply pw_below_drewN | apply below_drew1 | refine below_set ?_ GE115.out | refine below_set ?_ GE120.out) | exact HB.out)))); (case aL => have := LMc12.out; omega); intro v125 w23 ho hb hg hat; rw [← Ny124.out] at ho; have n0_ := Aside0.mk (Kd.R_after (ok := (fun _ => True)) (by (with_reducible repeat (first | apply Kd.R_alloc | apply Kd.R_drewN | apply Kd.R_drew)); exact HO_3.out) hg hat); have n1_ := Aside0.mk (blk_grown (g := gb115) (o := .cells #[.string a0_0, .slice A0_1 l0_1.length c0_1, .slice (some ad119) l0_2.length c0_2] 26 (0, 0)) (by (with_reducible repeat (first | refine blk_drewN ?_ _ | refine blk_drew ?_ | refine blk_alloc ?_ _)); exact BK115.out) hg (Kd.R_ne HO123.out BK115.out (by decide))); have n2_ := Aside0.mk (blk_grown (g := gb120) (o := .cells #[.string ((rd_T47 l0_2 x13_1).f0), .slice A119_1 ((rd_T47 l0_2 x13_1).f1).length c119_1] 47 (0, 0)) (by (with_reducible repeat (first | refine blk_drewN ?_ _ | refine blk_drew ?_ | refine blk_alloc ?_ _)); exact BK120.out) hg (Kd.R_ne HO123.out BK120.out (by decide))); have n3_ := Aside0.mk (hb); have n4_ := Aside0.mk (ho); clear HO_3; clear BK115; clear BK120; clear HB; clear HO123; have HO_3 := n0_; have BK115 := n1_; have BK120 := n2_; have HB := n3_; have HO126 := n4_; clear n0_ n1_ n2_ n3_ n4_; clear ho hb hg hat; obtain ⟨Ao24, co24, eo24⟩ := Kd.R_slice HO126.out; subst eo24) | ((with_reducible refine gate_callee (f := 28) rfl ?_); refine goesL_ (some 24) rfl rfl Try.func28 (by kernel_rfl) rfl #[.slice Ao24 y124.length co24] rfl (by (try simp only [List.map_toArray, List.map_cons, List.map_nil]); first | done | rfl | (simp only [List.length_drop, List.length_take]; rfl)) ?_; (with_reducible refine (recipe_quoted.calls k1 _ _ y124 t127 _ ?side1 ?side2 A13.out).mono ?_); (case side1 => repeat (first | exact (Kd.R_reads' HO126.out).2.2 | (with_reducible refine Kd.C_alloc ?_ _) | (with_reducible refine Kd.C_drewN ?_ _) | (with_reducible refine Kd.C_drew ?_))); (case side2 => exact (Kd.R_reads' HO126.out).2.1); rintro e w25 ⟨rfl, hb⟩; refine ⟨_, rfl, ?_⟩; have n0_ := Aside0.mk (Kd.R_below (by (with_reducible repeat (first | apply Kd.R_alloc | apply Kd.R_drewN | apply Kd.R_drew)); exact HO_3.out) hb); have n1_ := Aside0.mk (Kd.R_below (by (with_reducible repeat (first | apply Kd.R_alloc | apply Kd.R_drewN | apply Kd.R_drew)); exact HO126.out) hb); have n2_ := Aside0.mk (blk_below (g := gb115) (o := .cells #[.string a0_0, .slice A0_1 l0_1.length c0_1, .slice (some ad119) l0_2.length c0_2] 26 (0, 0)) (by (with_reducible repeat (first | refine blk_drewN ?_ _ | refine blk_drew ?_ | refine blk_alloc ?_ _)); exact BK115.out) hb); have n3_ := Aside0.mk (blk_below (g := gb120) (o := .cells #[.string ((rd_T47 l0_2 x13_1).f0), .slice A119_1 ((rd_T47 l0_2 x13_1).f1).length c119_1] 47 (0, 0)) (by (with_reducible repeat (first | refine blk_drewN ?_ _ | refine blk_drew ?_ | refine blk_alloc ?_ _)); exact BK120.out) hb); have n4_ := Aside0.mk (below_step (by repeat (first | (with_reducible first | exact HB.out | apply below_alloc | apply pw_below_drewN | apply below_drew1 | refine below_set ?_ GE115.out | refine below_set ?_ GE120.out) | exact HB.out)) hb); clear HO_3; clear HO126; clear BK115; clear BK120; clear HB; have HO_3 := n0_; have HO126 := n1_; have BK115 := n2_; have BK120 := n3_; have HB := n4_; clear n0_ n1_ n2_ n3_ n4_; (try clear hb); (try clear hb2); (try clear hk); (try clear hi)) | ((with_reducible refine gate_builtin (b := .append) (xs := #[.tmp 17, .tmp 27]) rfl ?_); at_builtin; refine Kd.R_append Kd.string (w0 := w) w.heap.size rfl (.tmp 17) (.tmp 27) 23 9 (.string ⟨#[]⟩) 16 rfl Try.underlying23 info9 rfl (by decide) (by omega) u3 x3_1 (((⟨#[40]⟩ : ByteArray) ++ t127) ++ (⟨#[41]⟩ : ByteArray)) [.string (((⟨#[40]⟩ : ByteArray) ++ t127) ++ (⟨#[41]⟩ : ByteArray))] (fun k_ => some k_ ≠ (.slice Ao24 y124.length co24 : Value).ownBlock) (fun _ => False) rfl rfl ?aP (fun _ hk => hk.elim) ?aF ?aO ?aB ?aS ?aL ?_; (case aP => exact rfl); (case aB => exact (by repeat (first | (with_reducible first | exact HB.out | apply below_alloc | apply pw_below_drewN | apply below_drew1 | refine below_set ?_ GE115.out | refine below_set ?_ GE120.out) | exact HB.out))); (case aF => exact (fun k_ hk => Kd.fresh' (Kd.R_lt (by (with_reducible repeat (first | apply Kd.R_alloc | apply Kd.R_drewN | apply Kd.R_drew)); exact HO126.out)) k_ hk)); (case aO => exact (by (with_reducible repeat (first | apply Kd.R_alloc | apply Kd.R_drewN | apply Kd.R_drew)); exact Kd.R_mono HO_3.out (fun _ hk => hk.2))); (case aS => exact (below_size (by repeat (first | (with_reducible first | exact HB.out | apply below_alloc | apply pw_below_drewN | apply below_drew1 | refine below_set ?_ GE115.out | refine below_set ?_ GE120.out) | exact HB.out)))); (case aL => have := LMc16.out; omega); intro v129 w26 ho hb hg hat; rw [← Ny128.out] at ho; have n0_ := Aside0.mk (blk_grown (g := gb115) (o := .cells #[.string a0_0, .slice A0_1 l0_1.length c0_1, .slice (some ad119) l0_2.length c0_2] 26 (0, 0)) (by (with_reducible repeat (first | refine blk_drewN ?_ _ | refine blk_drew ?_ | refine blk_alloc ?_ _)); exact BK115.out) hg (Kd.R_ne HO_3.out BK115.out (by decide))); have n1_ := Aside0.mk (blk_grown (g := gb120) (o := .cells #[.string ((rd_T47 l0_2 x13_1).f0), .slice A119_1 ((rd_T47 l0_2 x13_1).f1).length c119_1] 47 (0, 0)) (by (with_reducible repeat (first | refine blk_drewN ?_ _ | refine blk_drew ?_ | refine blk_alloc ?_ _)); exact BK120.out) hg (Kd.R_ne HO_3.out BK120.out (by decide))); have n2_ := Aside0.mk (Kd.R_after (ok := (fun _ => True)) (by (with_reducible repeat (first | apply Kd.R_alloc | apply Kd.R_drewN | apply Kd.R_drew)); exact Kd.R_mono HO126.out (fun _ hk => ⟨trivial, hk⟩)) hg hat); have n3_ := Aside0.mk (hb); have n4_ := Aside0.mk (ho); clear BK115; clear BK120; clear HO126; clear HB; clear HO_3; have BK115 := n0_; have BK120 := n1_; have HO126 := n2_; have HB := n3_; have HO130 := n4_; clear n0_ n1_ n2_ n3_ n4_; clear ho hb hg hat))
                        go_roundg k1
                        case measure => have := HK1.out; omega
                        case rel => exact ⟨(y128), (wrap64 (x13_1 + 1)), (by first | rfl | (simp; done) | (simp [*]; done)), H', ⟨by have := HK1.out; omega⟩, ⟨by (with_reducible repeat (first | apply Kd.R_alloc | apply Kd.R_drewN | apply Kd.R_drew)); exact Kd.R_mono HO130.out (fun _ hk => trivial)⟩, ⟨by (with_reducible repeat (first | refine blk_drewN ?_ _ | refine blk_drew ?_ | refine blk_alloc ?_ _)); exact BK115.out⟩, ⟨by repeat (first | (with_reducible first | exact HB.out | apply below_alloc | apply pw_below_drewN | apply below_drew1 | refine below_set ?_ GE115.out | refine below_set ?_ GE120.out) | exact HB.out)⟩⟩
                      · rw [if_neg c16] at H
                        exact absurd H (by simp)
                    · rw [if_neg c15] at H
                      exact absurd H (by simp)
                  · rw [if_neg c14] at H
                    exact absurd H (by simp)
                · rw [if_neg c12] at H
                  exact absurd H (by simp)
              · rw [if_neg c11] at H
                exact absurd H (by simp)
            · rw [if_neg c10] at H
              exact absurd H (by simp)
          · rw [if_neg c9] at H
            have c9b0 : decide (x13_1 < (l0_2.length : Int)) = false := decide_eq_false c9
            clear c9
            replace H := Option.bind_eq_some_iff.mp H
            obtain ⟨t131, A270, H⟩ := H
            replace H : (if 7 + t131.size ≤ 9223372036854775807 then (if ((⟨#[82, 101, 99, 105, 112, 101, 40]⟩ : ByteArray) ++ t131).size + 2 ≤ 9223372036854775807 then ((recipe_quoted.f k1 l0_1).bind fun t132 => (if (((⟨#[82, 101, 99, 105, 112, 101, 40]⟩ : ByteArray) ++ t131) ++ (⟨#[44, 91]⟩ : ByteArray)).size + t132.size ≤ 9223372036854775807 then (if ((((⟨#[82, 101, 99, 105, 112, 101, 40]⟩ : ByteArray) ++ t131) ++ (⟨#[44, 91]⟩ : ByteArray)) ++ t132).size + 3 ≤ 9223372036854775807 then ((strings_Join.f x3_1 (⟨#[44]⟩ : ByteArray)).bind fun t133 => (if (((((⟨#[82, 101, 99, 105, 112, 101, 40]⟩ : ByteArray) ++ t131) ++ (⟨#[44, 91]⟩ : ByteArray)) ++ t132) ++ (⟨#[93, 44, 91]⟩ : ByteArray)).size + t133.size ≤ 9223372036854775807 then (if ((((((⟨#[82, 101, 99, 105, 112, 101, 40]⟩ : ByteArray) ++ t131) ++ (⟨#[44, 91]⟩ : ByteArray)) ++ t132) ++ (⟨#[93, 44, 91]⟩ : ByteArray)) ++ t133).size + 2 ≤ 9223372036854775807 then (some (((((((⟨#[82, 101, 99, 105, 112, 101, 40]⟩ : ByteArray) ++ t131) ++ (⟨#[44, 91]⟩ : ByteArray)) ++ t132) ++ (⟨#[93, 44, 91]⟩ : ByteArray)) ++ t133) ++ (⟨#[93, 41]⟩ : ByteArray))) else (none)) else (none))) else (none)) else (none))) else (none)) else (none)) = some r := H
            have A27 := Aside0.mk A270
            clear A270
            by_cases c28 : 7 + t131.size ≤ 9223372036854775807
            · rw [if_pos c28] at H
              have c28b0 := eq_true c28
              have c28b1 : decide (7 + t131.size ≤ 9223372036854775807) = true := decide_eq_true c28
              try have c28b2 : (9223372036854775807 < 7 + t131.size) = False := eq_false (Nat.not_lt.2 c28)
              by_cases c29 : ((⟨#[82, 101, 99, 105, 112, 101, 40]⟩ : ByteArray) ++ t131).size + 2 ≤ 9223372036854775807
              · rw [if_pos c29] at H
                have c29b0 := eq_true c29
                have c29b1 : decide (((⟨#[82, 101, 99, 105, 112, 101, 40]⟩ : ByteArray) ++ t131).size + 2 ≤ 9223372036854775807) = true := decide_eq_true c29
                try have c29b2 : (9223372036854775807 < ((⟨#[82, 101, 99, 105, 112, 101, 40]⟩ : ByteArray) ++ t131).size + 2) = False := eq_false (Nat.not_lt.2 c29)
                (try have c29b4 : (9223372036854775807 < 7 + t131.size + 2) = False := by have z_ := c29; simp only [ByteArray.size_append] at z_; exact eq_false (Nat.not_lt.2 z_))
                replace H := Option.bind_eq_some_iff.mp H
                obtain ⟨t132, A300, H⟩ := H
                replace H : (if (((⟨#[82, 101, 99, 105, 112, 101, 40]⟩ : ByteArray) ++ t131) ++ (⟨#[44, 91]⟩ : ByteArray)).size + t132.size ≤ 9223372036854775807 then (if ((((⟨#[82, 101, 99, 105, 112, 101, 40]⟩ : ByteArray) ++ t131) ++ (⟨#[44, 91]⟩ : ByteArray)) ++ t132).size + 3 ≤ 9223372036854775807 then ((strings_Join.f x3_1 (⟨#[44]⟩ : ByteArray)).bind fun t133 => (if (((((⟨#[82, 101, 99, 105, 112, 101, 40]⟩ : ByteArray) ++ t131) ++ (⟨#[44, 91]⟩ : ByteArray)) ++ t132) ++ (⟨#[93, 44, 91]⟩ : ByteArray)).size + t133.size ≤ 9223372036854775807 then (if ((((((⟨#[82, 101, 99, 105, 112, 101, 40]⟩ : ByteArray) ++ t131) ++ (⟨#[44, 91]⟩ : ByteArray)) ++ t132) ++ (⟨#[93, 44, 91]⟩ : ByteArray)) ++ t133).size + 2 ≤ 9223372036854775807 then (some (((((((⟨#[82, 101, 99, 105, 112, 101, 40]⟩ : ByteArray) ++ t131) ++ (⟨#[44, 91]⟩ : ByteArray)) ++ t132) ++ (⟨#[93, 44, 91]⟩ : ByteArray)) ++ t133) ++ (⟨#[93, 41]⟩ : ByteArray))) else (none)) else (none))) else (none)) else (none)) = some r := H
                have A30 := Aside0.mk A300
                clear A300
                by_cases c31 : (((⟨#[82, 101, 99, 105, 112, 101, 40]⟩ : ByteArray) ++ t131) ++ (⟨#[44, 91]⟩ : ByteArray)).size + t132.size ≤ 9223372036854775807
                · rw [if_pos c31] at H
                  have c31b0 := eq_true c31
                  have c31b1 : decide ((((⟨#[82, 101, 99, 105, 112, 101, 40]⟩ : ByteArray) ++ t131) ++ (⟨#[44, 91]⟩ : ByteArray)).size + t132.size ≤ 9223372036854775807) = true := decide_eq_true c31
                  try have c31b2 : (9223372036854775807 < (((⟨#[82, 101, 99, 105, 112, 101, 40]⟩ : ByteArray) ++ t131) ++ (⟨#[44, 91]⟩ : ByteArray)).size + t132.size) = False := eq_false (Nat.not_lt.2 c31)
                  (try have c31b4 : (9223372036854775807 < 7 + t131.size + 2 + t132.size) = False := by have z_ := c31; simp only [ByteArray.size_append] at z_; exact eq_false (Nat.not_lt.2 z_))
                  by_cases c32 : ((((⟨#[82, 101, 99, 105, 112, 101, 40]⟩ : ByteArray) ++ t131) ++ (⟨#[44, 91]⟩ : ByteArray)) ++ t132).size + 3 ≤ 9223372036854775807
                  · rw [if_pos c32] at H
                    have c32b0 := eq_true c32
                    have c32b1 : decide (((((⟨#[82, 101, 99, 105, 112, 101, 40]⟩ : ByteArray) ++ t131) ++ (⟨#[44, 91]⟩ : ByteArray)) ++ t132).size + 3 ≤ 9223372036854775807) = true := decide_eq_true c32
                    try have c32b2 : (9223372036854775807 < ((((⟨#[82, 101, 99, 105, 112, 101, 40]⟩ : ByteArray) ++ t131) ++ (⟨#[44, 91]⟩ : ByteArray)) ++ t132).size + 3) = False := eq_false (Nat.not_lt.2 c32)
                    (try have c32b4 : (9223372036854775807 < 7 + t131.size + 2 + t132.size + 3) = False := by have z_ := c32; simp only [ByteArray.size_append] at z_; exact eq_false (Nat.not_lt.2 z_))
                    replace H := Option.bind_eq_some_iff.mp H
                    obtain ⟨t133, A330, H⟩ := H
                    replace H : (if (((((⟨#[82, 101, 99, 105, 112, 101, 40]⟩ : ByteArray) ++ t131) ++ (⟨#[44, 91]⟩ : ByteArray)) ++ t132) ++ (⟨#[93, 44, 91]⟩ : ByteArray)).size + t133.size ≤ 9223372036854775807 then (if ((((((⟨#[82, 101, 99, 105, 112, 101, 40]⟩ : ByteArray) ++ t131) ++ (⟨#[44, 91]⟩ : ByteArray)) ++ t132) ++ (⟨#[93, 44, 91]⟩ : ByteArray)) ++ t133).size + 2 ≤ 9223372036854775807 then (some (((((((⟨#[82, 101, 99, 105, 112, 101, 40]⟩ : ByteArray) ++ t131) ++ (⟨#[44, 91]⟩ : ByteArray)) ++ t132) ++ (⟨#[93, 44, 91]⟩ : ByteArray)) ++ t133) ++ (⟨#[93, 41]⟩ : ByteArray))) else (none)) else (none)) = some r := H
                    have A33 := Aside0.mk A330
                    clear A330
                    by_cases c34 : (((((⟨#[82, 101, 99, 105, 112, 101, 40]⟩ : ByteArray) ++ t131) ++ (⟨#[44, 91]⟩ : ByteArray)) ++ t132) ++ (⟨#[93, 44, 91]⟩ : ByteArray)).size + t133.size ≤ 9223372036854775807
                    · rw [if_pos c34] at H
                      have c34b0 := eq_true c34
                      have c34b1 : decide ((((((⟨#[82, 101, 99, 105, 112, 101, 40]⟩ : ByteArray) ++ t131) ++ (⟨#[44, 91]⟩ : ByteArray)) ++ t132) ++ (⟨#[93, 44, 91]⟩ : ByteArray)).size + t133.size ≤ 9223372036854775807) = true := decide_eq_true c34
                      try have c34b2 : (9223372036854775807 < (((((⟨#[82, 101, 99, 105, 112, 101, 40]⟩ : ByteArray) ++ t131) ++ (⟨#[44, 91]⟩ : ByteArray)) ++ t132) ++ (⟨#[93, 44, 91]⟩ : ByteArray)).size + t133.size) = False := eq_false (Nat.not_lt.2 c34)
                      (try have c34b4 : (9223372036854775807 < 7 + t131.size + 2 + t132.size + 3 + t133.size) = False := by have z_ := c34; simp only [ByteArray.size_append] at z_; exact eq_false (Nat.not_lt.2 z_))
                      by_cases c35 : ((((((⟨#[82, 101, 99, 105, 112, 101, 40]⟩ : ByteArray) ++ t131) ++ (⟨#[44, 91]⟩ : ByteArray)) ++ t132) ++ (⟨#[93, 44, 91]⟩ : ByteArray)) ++ t133).size + 2 ≤ 9223372036854775807
                      · rw [if_pos c35] at H
                        have c35b0 := eq_true c35
                        have c35b1 : decide (((((((⟨#[82, 101, 99, 105, 112, 101, 40]⟩ : ByteArray) ++ t131) ++ (⟨#[44, 91]⟩ : ByteArray)) ++ t132) ++ (⟨#[93, 44, 91]⟩ : ByteArray)) ++ t133).size + 2 ≤ 9223372036854775807) = true := decide_eq_true c35
                        try have c35b2 : (9223372036854775807 < ((((((⟨#[82, 101, 99, 105, 112, 101, 40]⟩ : ByteArray) ++ t131) ++ (⟨#[44, 91]⟩ : ByteArray)) ++ t132) ++ (⟨#[93, 44, 91]⟩ : ByteArray)) ++ t133).size + 2) = False := eq_false (Nat.not_lt.2 c35)
                        (try have c35b4 : (9223372036854775807 < 7 + t131.size + 2 + t132.size + 3 + t133.size + 2) = False := by have z_ := c35; simp only [ByteArray.size_append] at z_; exact eq_false (Nat.not_lt.2 z_))
                        obtain rfl := Option.some.inj H
                        try go_wp2
                        have n0_ := Aside0.mk (Kd.R_drew HO_3.out)
                        have n1_ := Aside0.mk (blk_drew BK115.out)
                        have n2_ := Aside0.mk (below_drew1 HB.out)
                        clear HO_3
                        clear BK115
                        clear HB
                        have HO_3 := n0_
                        have BK115 := n1_
                        have HB := n2_
                        clear n0_ n1_ n2_
                        refine start_ (n := 15) (S := fun w' => w'.cell? ⟨gb115, 0, none⟩ = some (.string a0_0) ∧ w'.cell? ⟨gb115, 1, none⟩ = some (.slice A0_1 l0_1.length c0_1) ∧ w'.cell? ⟨gb115, 2, none⟩ = some (.slice A0_2 l0_2.length c0_2)) (ds := []) #[false, false, false, false, false, false, false, false, false, false, false, false, false, false, false] (by kernel_rfl) rfl rfl ⟨(blk_cell BK115.out 0).trans rfl, (blk_cell BK115.out 1).trans rfl, (blk_cell BK115.out 2).trans rfl⟩ (fun hHeld => ?_); refine with_tabW recipe_Print.tab7 recipe_Print.bits7 (fun HT_ HW_ => ?_)
                        generalize wr.drew = w36 at HO_3 BK115 HB hHeld ⊢
                        refine pure_ (i := 0) (N := some 30) (v := ?_) (a' := ?_) #[true, false, false, false, false, false, false, false, false, false, false, false, false, false, false] rfl rfl (any_of HT_.out (by kernel_rfl)) (fun _ _ _ h => h) (Or.inl ⟨by rfl, ?_⟩) ?_ ?_
                        rotate_left
                        · intro w'
                          go_simp
                          with_reducible rfl
                        rotate_left
                        · simp only [Act.put, List.setIfInBounds_toArray, List.set_cons_zero, List.set_cons_succ, i64_w, i32_w]
                          rfl
                        refine pure_ (i := 5) (N := some 35) (v := ?_) (a' := ?_) #[true, false, false, false, false, true, false, false, false, false, false, false, false, false, false] rfl rfl (any_of HT_.out (by kernel_rfl)) (fun _ _ _ h => h) (Or.inl ⟨by rfl, ?_⟩) ?_ ?_
                        rotate_left
                        · intro w'
                          go_simp
                          with_reducible rfl
                        rotate_left
                        · simp only [Act.put, List.setIfInBounds_toArray, List.set_cons_zero, List.set_cons_succ, i64_w, i32_w]
                          rfl
                        refine pure_ (i := 10) (N := some 40) (v := ?_) (a' := ?_) #[true, false, false, false, false, true, false, false, false, false, true, false, false, false, false] rfl rfl (any_of HT_.out (by kernel_rfl)) (fun _ _ _ h => h) (Or.inl ⟨by rfl, ?_⟩) ?_ ?_
                        rotate_left
                        · intro w'
                          go_simp
                          with_reducible rfl
                        rotate_left
                        · simp only [Act.put, List.setIfInBounds_toArray, List.set_cons_zero, List.set_cons_succ, i64_w, i32_w]
                          rfl
                        refine take_ (i := 1) (N := some 31) (v := ?_) (a' := ?_) #[true, true, false, false, false, true, false, false, false, false, true, false, false, false, false] rfl rfl (take_ofW HT_.out HW_.out (by kernel_rfl)) (fun _ _ _ h => h) (Or.inl ⟨by rfl, ?_⟩) hHeld ?_ ?_
                        rotate_left
                        · rintro w' ⟨s0, s1, s2⟩
                          go_simp
                          with_reducible rfl
                        rotate_left
                        · simp only [Act.put, List.setIfInBounds_toArray, List.set_cons_zero, List.set_cons_succ, i64_w, i32_w]
                          rfl
                        refine take_ (i := 6) (N := some 36) (v := ?_) (a' := ?_) #[true, true, false, false, false, true, true, false, false, false, true, false, false, false, false] rfl rfl (take_ofW HT_.out HW_.out (by kernel_rfl)) (fun _ _ _ h => h) (Or.inl ⟨by rfl, ?_⟩) hHeld ?_ ?_
                        rotate_left
                        · rintro w' ⟨s0, s1, s2⟩
                          go_simp
                          with_reducible rfl
                        rotate_left
                        · simp only [Act.put, List.setIfInBounds_toArray, List.set_cons_zero, List.set_cons_succ, i64_w, i32_w]
                          rfl
                        refine one_ (i := 2) (N := some 32) #[true, true, true, false, false, true, true, false, false, false, true, false, false, false, false] rfl rfl (one_of HT_.out (by kernel_rfl)) (by decide) (fun K hK => ?_)
                        refine goes_ Try.func29 (by kernel_rfl) rfl #[.string a0_0] (by rfl) rfl rfl (by (try simp only [List.map_toArray, List.map_cons, List.map_nil]); first | done | rfl | (simp only [List.length_drop, List.length_take]; rfl)) ?_
                        with_reducible refine (recipe_quote.calls a0_0 t131 _ A27.out).mono ?_
                        rintro e w37 ⟨rfl, hb⟩
                        refine ⟨_, rfl, ?_⟩
                        have n0_ := Aside0.mk (Kd.R_below (by (with_reducible repeat (first | apply Kd.R_alloc | apply Kd.R_drewN | apply Kd.R_drew)); exact HO_3.out) hb)
                        have n1_ := Aside0.mk (blk_below (g := gb115) (o := .cells #[.string a0_0, .slice A0_1 l0_1.length c0_1, .slice A0_2 l0_2.length c0_2] 26 (0, 0)) (by (with_reducible repeat (first | refine blk_drewN ?_ _ | refine blk_drew ?_ | refine blk_alloc ?_ _)); exact BK115.out) hb)
                        have n2_ := Aside0.mk (below_step (by repeat (first | (with_reducible first | exact HB.out | apply below_alloc | apply pw_below_drewN | apply below_drew1 | refine below_set ?_ GE115.out) | exact HB.out)) hb)
                        clear HO_3
                        clear BK115
                        clear HB
                        have HO_3 := n0_
                        have BK115 := n1_
                        have HB := n2_
                        clear n0_ n1_ n2_
                        (try clear hb)
                        (try clear hb2)
                        (try clear hk)
                        (try clear hi)
                        refine hK.out _ _ ⟨(blk_cell BK115.out 0).trans rfl, (blk_cell BK115.out 1).trans rfl, (blk_cell BK115.out 2).trans rfl⟩ (fun hHeld => ?_)
                        clear hK K
                        refine norm_ (a' := ?_) ?_ ?_
                        rotate_left
                        · show Act.put _ (some 32) _ = _
                          simp only [Act.put, List.setIfInBounds_toArray, List.set_cons_zero, List.set_cons_succ, i64_w, i32_w]
                          rfl
                        refine pure_ (i := 3) (N := some 33) (v := ?_) (a' := ?_) #[true, true, true, true, false, true, true, false, false, false, true, false, false, false, false] rfl rfl (any_of HT_.out (by kernel_rfl)) (fun _ _ _ h => h) (Or.inl ⟨by rfl, ?_⟩) ?_ ?_
                        rotate_left
                        · intro w'
                          go_simp
                          with_reducible rfl
                        rotate_left
                        · simp only [Act.put, List.setIfInBounds_toArray, List.set_cons_zero, List.set_cons_succ, i64_w, i32_w]
                          rfl
                        refine pure_ (i := 4) (N := some 34) (v := ?_) (a' := ?_) #[true, true, true, true, true, true, true, false, false, false, true, false, false, false, false] rfl rfl (any_of HT_.out (by kernel_rfl)) (fun _ _ _ h => h) (Or.inl ⟨by rfl, ?_⟩) ?_ ?_
                        rotate_left
                        · intro w'
                          go_simp
                          with_reducible rfl
                        rotate_left
                        · simp only [Act.put, List.setIfInBounds_toArray, List.set_cons_zero, List.set_cons_succ, i64_w, i32_w]
                          rfl
                        refine one_ (i := 7) (N := some 37) #[true, true, true, true, true, true, true, true, false, false, true, false, false, false, false] rfl rfl (one_of HT_.out (by kernel_rfl)) (by decide) (fun K hK => ?_)
                        refine goes_ Try.func28 (by kernel_rfl) rfl #[.slice A0_1 l0_1.length c0_1] (by rfl) rfl rfl (by (try simp only [List.map_toArray, List.map_cons, List.map_nil]); first | done | rfl | (simp only [List.length_drop, List.length_take]; rfl)) ?_
                        with_reducible refine (recipe_quoted.calls k1 _ _ l0_1 t132 _ ?side1 ?side2 A30.out).mono ?_
                        (case side1 => repeat (first | exact (Kd.C_below HR0_1.out HB.out) | (with_reducible refine Kd.C_alloc ?_ _) | (with_reducible refine Kd.C_drewN ?_ _) | (with_reducible refine Kd.C_drew ?_)))
                        (case side2 => exact HC0_1.out)
                        rintro e w38 ⟨rfl, hb⟩
                        refine ⟨_, rfl, ?_⟩
                        have n0_ := Aside0.mk (Kd.R_below (by (with_reducible repeat (first | apply Kd.R_alloc | apply Kd.R_drewN | apply Kd.R_drew)); exact HO_3.out) hb)
                        have n1_ := Aside0.mk (blk_below (g := gb115) (o := .cells #[.string a0_0, .slice A0_1 l0_1.length c0_1, .slice A0_2 l0_2.length c0_2] 26 (0, 0)) (by (with_reducible repeat (first | refine blk_drewN ?_ _ | refine blk_drew ?_ | refine blk_alloc ?_ _)); exact BK115.out) hb)
                        have n2_ := Aside0.mk (below_step (by repeat (first | (with_reducible first | exact HB.out | apply below_alloc | apply pw_below_drewN | apply below_drew1 | refine below_set ?_ GE115.out) | exact HB.out)) hb)
                        clear HO_3
                        clear BK115
                        clear HB
                        have HO_3 := n0_
                        have BK115 := n1_
                        have HB := n2_
                        clear n0_ n1_ n2_
                        (try clear hb)
                        (try clear hb2)
                        (try clear hk)
                        (try clear hi)
                        obtain ⟨Ao39, co39, eo39⟩ := Kd.R_slice HO_3.out
                        (first | subst eo39 | (injection eo39 with f1_ f2_ f3_; have f4_ := f1_.symm; have f5_ := f3_.symm; clear f1_ f2_ f3_; subst f4_; subst f5_))
                        refine hK.out _ _ ⟨(blk_cell BK115.out 0).trans rfl, (blk_cell BK115.out 1).trans rfl, (blk_cell BK115.out 2).trans rfl⟩ (fun hHeld => ?_)
                        clear hK K
                        refine norm_ (a' := ?_) ?_ ?_
                        rotate_left
                        · show Act.put _ (some 37) _ = _
                          simp only [Act.put, List.setIfInBounds_toArray, List.set_cons_zero, List.set_cons_succ, i64_w, i32_w]
                          rfl
                        refine pure_ (i := 8) (N := some 38) (v := ?_) (a' := ?_) #[true, true, true, true, true, true, true, true, true, false, true, false, false, false, false] rfl rfl (any_of HT_.out (by kernel_rfl)) (fun _ _ _ h => h) (Or.inl ⟨by rfl, ?_⟩) ?_ ?_
                        rotate_left
                        · intro w'
                          go_simp
                          with_reducible rfl
                        rotate_left
                        · simp only [Act.put, List.setIfInBounds_toArray, List.set_cons_zero, List.set_cons_succ, i64_w, i32_w]
                          rfl
                        refine pure_ (i := 9) (N := some 39) (v := ?_) (a' := ?_) #[true, true, true, true, true, true, true, true, true, true, true, false, false, false, false] rfl rfl (any_of HT_.out (by kernel_rfl)) (fun _ _ _ h => h) (Or.inl ⟨by rfl, ?_⟩) ?_ ?_
                        rotate_left
                        · intro w'
                          go_simp
                          with_reducible rfl
                        rotate_left
                        · simp only [Act.put, List.setIfInBounds_toArray, List.set_cons_zero, List.set_cons_succ, i64_w, i32_w]
                          rfl
                        refine one_ (i := 11) (N := some 41) #[true, true, true, true, true, true, true, true, true, true, true, true, false, false, false] rfl rfl (one_of HT_.out (by kernel_rfl)) (by decide) (fun K hK => ?_)
                        refine goes_ Try.func30 (by kernel_rfl) rfl #[.slice Ao39 x3_1.length co39, .string (⟨#[44]⟩ : ByteArray)] (by rfl) rfl rfl (by (try simp only [List.map_toArray, List.map_cons, List.map_nil]); first | done | rfl | (simp only [List.length_drop, List.length_take]; rfl)) ?_
                        with_reducible refine (strings_Join.calls _ _ x3_1 (⟨#[44]⟩ : ByteArray) t133 _ ?side1 ?side2 A33.out).mono ?_
                        (case side1 => repeat (first | exact (Kd.R_reads' HO_3.out).2.2 | (with_reducible refine Kd.C_alloc ?_ _) | (with_reducible refine Kd.C_drewN ?_ _) | (with_reducible refine Kd.C_drew ?_)))
                        (case side2 => exact (Kd.R_reads' HO_3.out).2.1)
                        rintro e w40 ⟨rfl, hb⟩
                        refine ⟨_, rfl, ?_⟩
                        have n0_ := Aside0.mk (Kd.R_below (by (with_reducible repeat (first | apply Kd.R_alloc | apply Kd.R_drewN | apply Kd.R_drew)); exact HO_3.out) hb)
                        have n1_ := Aside0.mk (blk_below (g := gb115) (o := .cells #[.string a0_0, .slice A0_1 l0_1.length c0_1, .slice A0_2 l0_2.length c0_2] 26 (0, 0)) (by (with_reducible repeat (first | refine blk_drewN ?_ _ | refine blk_drew ?_ | refine blk_alloc ?_ _)); exact BK115.out) hb)
                        have n2_ := Aside0.mk (below_step (by repeat (first | (with_reducible first | exact HB.out | apply below_alloc | apply pw_below_drewN | apply below_drew1 | refine below_set ?_ GE115.out) | exact HB.out)) hb)
                        clear HO_3
                        clear BK115
                        clear HB
                        have HO_3 := n0_
                        have BK115 := n1_
                        have HB := n2_
                        clear n0_ n1_ n2_
                        (try clear hb)
                        (try clear hb2)
                        (try clear hk)
                        (try clear hi)
                        refine hK.out _ _ ⟨(blk_cell BK115.out 0).trans rfl, (blk_cell BK115.out 1).trans rfl, (blk_cell BK115.out 2).trans rfl⟩ (fun hHeld => ?_)
                        clear hK K
                        refine norm_ (a' := ?_) ?_ ?_
                        rotate_left
                        · show Act.put _ (some 41) _ = _
                          simp only [Act.put, List.setIfInBounds_toArray, List.set_cons_zero, List.set_cons_succ, i64_w, i32_w]
                          rfl
                        refine pure_ (i := 12) (N := some 42) (v := ?_) (a' := ?_) #[true, true, true, true, true, true, true, true, true, true, true, true, true, false, false] rfl rfl (any_of HT_.out (by kernel_rfl)) (fun _ _ _ h => h) (Or.inl ⟨by rfl, ?_⟩) ?_ ?_
                        rotate_left
                        · intro w'
                          go_simp
                          with_reducible rfl
                        rotate_left
                        · simp only [Act.put, List.setIfInBounds_toArray, List.set_cons_zero, List.set_cons_succ, i64_w, i32_w]
                          rfl
                        refine pure_ (i := 13) (N := some 43) (v := ?_) (a' := ?_) #[true, true, true, true, true, true, true, true, true, true, true, true, true, true, false] rfl rfl (any_of HT_.out (by kernel_rfl)) (fun _ _ _ h => h) (Or.inl ⟨by rfl, ?_⟩) ?_ ?_
                        rotate_left
                        · intro w'
                          go_simp
                          with_reducible rfl
                        rotate_left
                        · simp only [Act.put, List.setIfInBounds_toArray, List.set_cons_zero, List.set_cons_succ, i64_w, i32_w]
                          rfl
                        refine pure_ (i := 14) (N := some 2) (v := ?_) (a' := ?_) #[true, true, true, true, true, true, true, true, true, true, true, true, true, true, true] rfl rfl (any_of HT_.out (by kernel_rfl)) (fun _ _ _ h => h) (Or.inl ⟨by rfl, ?_⟩) ?_ ?_
                        rotate_left
                        · intro w'
                          go_simp
                          with_reducible rfl
                        rotate_left
                        · simp only [Act.put, List.setIfInBounds_toArray, List.set_cons_zero, List.set_cons_succ, i64_w, i32_w]
                          rfl
                        refine done_ (done_of HT_.out (by kernel_rfl)) ?_
                        try go_wp2
                        go_ret
                        exact ⟨by first | rfl | (simp [errW_none, errW_some] <;> rfl) | (simp [*, errW_none, errW_some] <;> rfl), by repeat (first | (with_reducible first | exact HB.out | apply below_alloc | apply pw_below_drewN | apply below_drew1 | refine below_set ?_ GE115.out) | exact HB.out)⟩
                      · rw [if_neg c35] at H
                        exact absurd H (by simp)
                    · rw [if_neg c34] at H
                      exact absurd H (by simp)
                  · rw [if_neg c32] at H
                    exact absurd H (by simp)
                · rw [if_neg c31] at H
                  exact absurd H (by simp)
              · rw [if_neg c29] at H
                exact absurd H (by simp)
            · rw [if_neg c28] at H
              exact absurd H (by simp)
    · rw [if_neg c3] at H
      exact absurd H (by simp)
  · rw [if_neg c2] at H
    exact absurd H (by simp)

end Go.Proofs.Ytdkkgeibifpgiaa.Q
/- recipe.quoted and recipe.Print compute the text. -/
namespace Go.Proofs.Ytdkkgeibifpgiaa.Rc
open Go.RowKit Go.Proofs.YtdkkgeibifpgiaaW.PrintWords Go.Proofs.Ytdkkgeibifpgiaa.Bytes Go.Proofs.Ytdkkgeibifpgiaa.Q
set_option linter.unusedVariables false
set_option linter.unusedSimpArgs false

def mkS (l : List UInt8) : ByteArray := ⟨l.toArray⟩
theorem bs_mkS (l : List UInt8) : bs (mkS l) = l := rfl
theorem size_mkS (l : List UInt8) : (mkS l).size = l.length := by rw [size_bs, bs_mkS]
theorem mkS_bs (b : ByteArray) : mkS (bs b) = b := rfl
theorem join_comma (xs : List (List UInt8)) : Lib.join xs [44] = commaL xs := by
  cases xs with
  | nil => rfl
  | cons x xs =>
    rw [Lib.join_cons, commaL]
    simp [Lib.joinTail, List.flatMap]
theorem comma_count (xs : List (List UInt8)) : xs.length ≤ (commaL xs).length + 1 := by
  cases xs with
  | nil => simp
  | cons x xs =>
    rw [commaL, List.length_append]
    have : xs.length ≤ (xs.flatMap (44 :: ·)).length := by
      induction xs with
      | nil => simp
      | cons y ys ih => rw [List.flatMap_cons, List.length_append]; simp only [List.length_cons]; omega
    simp only [List.length_cons]
    omega
theorem comma_mem (xs : List (List UInt8)) (x : List UInt8) (h : x ∈ xs) : x.length ≤ (commaL xs).length := by
  cases xs with
  | nil => cases h
  | cons y ys =>
    rw [commaL, List.length_append]
    rcases List.mem_cons.1 h with rfl | h
    · omega
    · have : x.length ≤ (ys.flatMap (44 :: ·)).length := by
        induction ys with
        | nil => cases h
        | cons z zs ih =>
          rw [List.flatMap_cons, List.length_append]
          rcases List.mem_cons.1 h with rfl | h
          · simp only [List.length_cons]; omega
          · have := ih (by simp [h]) h
            omega
      omega
theorem qesc_ge (x : UInt8) : 1 ≤ (qesc x).length := by
  unfold qesc
  split
  · simp
  · split
    · simp
    · split
      · simp
      · simp
theorem quoteB_ge (b : ByteArray) : b.size + 2 ≤ (quoteB b).length := by
  have h : ∀ l : List UInt8, l.length ≤ (l.flatMap qesc).length := fun l => by
    induction l with
    | nil => simp
    | cons x l ih =>
      rw [List.flatMap_cons, List.length_append, List.length_cons]
      have := qesc_ge x
      omega
  have h1 := h (bs b)
  rw [← size_bs] at h1
  show _ ≤ (34 :: ((bs b).flatMap qesc ++ [34]) : List UInt8).length
  rw [List.length_cons, List.length_append, List.length_singleton]
  omega
theorem join_f (acc : List ByteArray) (L : List (List UInt8)) (h : acc.map bs = L) (hJ : (commaL L).length ≤ 2199023255552) : strings_Join.f acc (⟨#[44]⟩ : ByteArray) = some (mkS (commaL L)) := by
  have e : bs (⟨#[44]⟩ : ByteArray) = [44] := rfl
  have hc := comma_count L
  have hl : acc.length = L.length := by rw [← h, List.length_map]
  unfold strings_Join.f
  rw [h, e, join_comma, if_pos ⟨by omega, by omega⟩]
  rfl
theorem quote_f (b : ByteArray) (h : b.size ≤ 17592186044416) : recipe_quote.f b = some (mkS (quoteB b)) := by
  unfold recipe_quote.f
  rw [if_pos h]
  rfl
theorem rd_at (xs : List ByteArray) (i : Nat) (h : i < xs.length) : rdOf ByteArray.empty xs (i : Int) = xs[i] := by
  simp [rdOf, List.getD_eq_getElem?_getD, List.getElem?_eq_getElem h]
theorem take_map_succ {α β : Type} (f : α → β) (l : List α) (i : Nat) (h : i < l.length) : (l.take i).map f ++ [f l[i]] = (l.take (i + 1)).map f := by
  rw [List.take_succ_eq_append_getElem h, List.map_append]
  rfl
theorem quoted_law (l : List ByteArray) (hM : (commaL (l.map quoteB)).length ≤ 1099511627776) : ∀ (d i k : Nat), i + d = l.length → d < k →
    recipe_quoted.l0 k ((l.take i).map (fun b => mkS (quoteB b))) l (l.length : Int) (i : Int) = some (mkS (commaL (l.map quoteB)))
  | d, i, 0, hid, hk => by omega
  | 0, i, k + 1, hid, hk => by
    have hi : i = l.length := by omega
    rw [recipe_quoted.l0, if_neg (by omega), hi, List.take_length, join_f _ (l.map quoteB) (by rw [List.map_map]; rfl) (by omega)]
    rfl
  | d + 1, i, k + 1, hid, hk => by
    have hi : i < l.length := by omega
    have hc := comma_count (l.map quoteB)
    rw [List.length_map] at hc
    have hm := comma_mem (l.map quoteB) (quoteB l[i]) (List.mem_map.2 ⟨l[i], List.getElem_mem hi, rfl⟩)
    have hg := quoteB_ge l[i]
    rw [recipe_quoted.l0, if_pos (by omega), if_pos (by omega), if_pos (by omega), rd_at l i hi, quote_f _ (by omega), Option.bind_some, if_pos (by rw [List.length_map, List.length_take]; omega), wrap_up i (by omega), take_map_succ (fun b => mkS (quoteB b)) l i hi]
    exact quoted_law l hM d (i + 1) k (by omega) (by omega)
theorem quoted_f (l : List ByteArray) (hM : (commaL (l.map quoteB)).length ≤ 1099511627776) (k : Nat) (hk : 1099511627780 ≤ k) : recipe_quoted.f k l = some (mkS (commaL (l.map quoteB))) := by
  have hc := comma_count (l.map quoteB)
  rw [List.length_map] at hc
  unfold recipe_quoted.f
  rw [if_pos (by omega), if_pos (by omega)]
  exact quoted_law l hM l.length 0 k (by omega) (by omega)
theorem step_bytes (s : S47) : ((⟨#[40]⟩ : ByteArray) ++ mkS (commaL ((s.f0 :: s.f1).map quoteB))) ++ (⟨#[41]⟩ : ByteArray) = mkS (stepP s) := by
  apply bs_inj
  rw [bs_append, bs_append, bs_mkS, bs_mkS]
  simp [stepP, bs]
theorem rd_step (xs : List S47) (i : Nat) (h : i < xs.length) : rd_T47 xs (i : Int) = xs[i] := by
  simp [rd_T47, List.getD_eq_getElem?_getD, List.getElem?_eq_getElem h]
theorem all_bytes (nm : ByteArray) (deps : List ByteArray) (steps : List S47) : (((((((⟨#[82, 101, 99, 105, 112, 101, 40]⟩ : ByteArray) ++ mkS (quoteB nm)) ++ (⟨#[44, 91]⟩ : ByteArray)) ++ mkS (commaL (deps.map quoteB))) ++ (⟨#[93, 44, 91]⟩ : ByteArray)) ++ mkS (commaL (steps.map stepP))) ++ (⟨#[93, 41]⟩ : ByteArray)) = mkS (printL (nm, deps, steps)) := by
  apply bs_inj
  simp only [bs_append, bs_mkS]
  simp [printL, bs]
theorem print_law (nm : ByteArray) (deps : List ByteArray) (steps : List S47) (hM : (printL (nm, deps, steps)).length ≤ 1099511627776) : ∀ (d i k : Nat), i + d = steps.length → d + 1099511627780 ≤ k →
    recipe_Print.l0 (k + 1) ((steps.take i).map (fun s => mkS (stepP s))) steps (steps.length : Int) (i : Int) nm deps steps = some (mkS (printL (nm, deps, steps))) := by
  have hlen : (printL (nm, deps, steps)).length = 7 + ((quoteB nm).length + (1 + ((1 + ((commaL (deps.map quoteB)).length + 1)) + (1 + ((1 + ((commaL (steps.map stepP)).length + 1)) + 1))))) := by simp [printL]; omega
  have hc := comma_count (steps.map stepP)
  rw [List.length_map] at hc
  intro d
  induction d with
  | zero =>
    intro i k hid hk
    have hi : i = steps.length := by omega
    have hg := quoteB_ge nm
    have z : ∀ l : List UInt8, (mkS l).size = l.length := size_mkS
    have s1 : (⟨#[82, 101, 99, 105, 112, 101, 40]⟩ : ByteArray).size = 7 := rfl
    have s2 : (⟨#[44, 91]⟩ : ByteArray).size = 2 := rfl
    have s3 : (⟨#[93, 44, 91]⟩ : ByteArray).size = 3 := rfl
    rw [recipe_Print.l0, if_neg (by omega), quote_f nm (by omega), Option.bind_some, if_pos (by rw [z]; omega), if_pos (by rw [ByteArray.size_append, z, s1]; omega), quoted_f deps (by omega) k (by omega), Option.bind_some,
      if_pos (by simp only [ByteArray.size_append, z, s1, s2]; omega), if_pos (by simp only [ByteArray.size_append, z, s1, s2]; omega), hi, List.take_length, join_f _ (steps.map stepP) (by rw [List.map_map]; rfl) (by omega), Option.bind_some,
      if_pos (by simp only [ByteArray.size_append, z, s1, s2, s3]; omega), if_pos (by simp only [ByteArray.size_append, z, s1, s2, s3]; omega), all_bytes]
  | succ d ih =>
    intro i k hid hk
    obtain ⟨k', rfl⟩ : ∃ k', k = k' + 1 := ⟨k - 1, by omega⟩
    have hi : i < steps.length := by omega
    have hm := comma_mem (steps.map stepP) (stepP steps[i]) (List.mem_map.2 ⟨steps[i], List.getElem_mem hi, rfl⟩)
    have hs : (stepP steps[i]).length = (commaL ((steps[i].f0 :: steps[i].f1).map quoteB)).length + 2 := by simp [stepP]
    have hcs := comma_count ((steps[i].f0 :: steps[i].f1).map quoteB)
    rw [List.length_map, List.length_cons] at hcs
    have s1 : (⟨#[40]⟩ : ByteArray).size = 1 := rfl
    rw [recipe_Print.l0, if_pos (by omega), if_pos (by omega), if_pos (by omega), rd_step steps i hi, Option.bind_some, if_pos (by simp only [List.length_singleton]; omega)]
    rw [show [steps[i].f0] ++ steps[i].f1 = steps[i].f0 :: steps[i].f1 from rfl, quoted_f (steps[i].f0 :: steps[i].f1) (by omega) (k' + 1) (by omega), Option.bind_some, if_pos (by rw [size_mkS]; omega), if_pos (by rw [ByteArray.size_append, size_mkS, s1]; omega), if_pos (by rw [List.length_map, List.length_take]; omega), wrap_up i (by omega), step_bytes, take_map_succ (fun s => mkS (stepP s)) steps i hi]
    exact ih (i + 1) k' (by omega) (by omega)
theorem print_f (nm : ByteArray) (deps : List ByteArray) (steps : List S47) (hM : (printL (nm, deps, steps)).length ≤ 1099511627776) (k : Nat) (hk : 4398046511104 ≤ k) : recipe_Print.f k nm deps steps = some (mkS (printL (nm, deps, steps))) := by
  have hlen : (printL (nm, deps, steps)).length = 7 + ((quoteB nm).length + (1 + ((1 + ((commaL (deps.map quoteB)).length + 1)) + (1 + ((1 + ((commaL (steps.map stepP)).length + 1)) + 1))))) := by simp [printL]; omega
  have hc := comma_count (steps.map stepP)
  rw [List.length_map] at hc
  obtain ⟨k', rfl⟩ : ∃ k', k = k' + 1 := ⟨k - 1, by omega⟩
  unfold recipe_Print.f
  rw [if_pos (by omega), if_pos (by omega)]
  exact print_law nm deps steps hM steps.length 0 k' (by omega) (by omega)
/-- Print's contract, whole. -/
theorem print_calls (nm : ByteArray) (A1 : Option Addr) (c1 : Nat) (deps : List ByteArray) (A2 : Option Addr) (c2 : Nat) (steps : List S47) (w : World) (h1 : Kd.C Kd.string w A1 deps.length deps) (hc1 : deps.length ≤ c1) (h2 : Kd.C k47 w A2 steps.length steps) (hc2 : steps.length ≤ c2) (hM : (printL (nm, deps, steps)).length ≤ 1099511627776) :
    Calls Try.prog 14 #[.agg #[.string nm, .slice A1 deps.length c1, .slice A2 steps.length c2]] w fun e w' => e = .returned (.string (mkS (printL (nm, deps, steps)))) ∧ Below w.heap.size w w' :=
  recipe_Print.calls 4398046511104 nm A1 c1 deps A2 c2 steps _ w h1 hc1 h2 hc2 (print_f nm deps steps hM _ (Nat.le_refl _))
end Go.Proofs.Ytdkkgeibifpgiaa.Rc
/- By a program of this session's: a plain Lean function for a Go function, and its contract. -/
namespace Go.Proofs.Ytdkkgeibifpgiaa.Q
open Go.RowKit Go.Proofs.YtdkkgeibifpgiaaW.PrintWords Go.Proofs.YtdkkgeibifpgiaaW.PrintLast Go.Proofs.YtdkkgeibifpgiaaW.PrintMore
attribute [local go_sem] max2_int min2_int max_two min_two max_three min_three max_four min_four Go.Proofs.Ytdkkgeibifpgiaa.Ord.str_leq Go.Proofs.Ytdkkgeibifpgiaa.Ord.str_gtr Go.Proofs.Ytdkkgeibifpgiaa.Ord.str_geq   -- for this text's walks alone
set_option linter.unusedVariables false
set_option linter.unusedSimpArgs false

/-! ### slices_Equal_string_string: function 31 -/
def slices_Equal_string_string.l0 : Nat → List ByteArray → List ByteArray → Int → Int → Option (Bool)
  | 0, _, _, _, _ => none
  | k + 1, x0, x1, x12, x13 => if x13 < x12 then (if 0 ≤ x13 then (if x13 < (x0.length : Int) then (if x13 < (x1.length : Int) then (if (rdOf ByteArray.empty x0 x13).toList = (rdOf ByteArray.empty x1 x13).toList then (slices_Equal_string_string.l0 k x0 x1 x12 (wrap64 (x13 + 1))) else (some false)) else (none)) else (none)) else (none)) else (some true)
def slices_Equal_string_string.f (k : Nat) (l0 : List ByteArray) (l1 : List ByteArray) : Option (Bool) := if (l0.length : Int) = (l1.length : Int) then (slices_Equal_string_string.l0 k l0 l1 (l0.length : Int) 0) else (some false)
theorem slices_Equal_string_string.mono_l : ∀ k, (∀ y0 y1 y2 y3, LeO (slices_Equal_string_string.l0 k y0 y1 y2 y3) (slices_Equal_string_string.l0 (k + 1) y0 y1 y2 y3))
  | 0 => fun _ _ _ _ r h => by simp [slices_Equal_string_string.l0] at h
  | k + 1 => by
    have ih0 := slices_Equal_string_string.mono_l k
    · intro y0 y1 y2 y3
      unfold slices_Equal_string_string.l0
      repeat' first
      | (with_reducible exact ih0 _ _ _ _)
      | (with_reducible exact LeO.refl _)
      | (with_reducible exact LeO.none _)
      | (with_reducible refine LeO.ite ?_ ?_)
      | (with_reducible refine LeO.bind ?_ (fun _ => ?_))
      | exact ih0 _ _ _ _
      | exact LeO.none _
      | refine LeO.ite ?_ ?_
      | refine LeO.bind ?_ (fun _ => ?_)
theorem slices_Equal_string_string.mono : ∀ a0 a1 k, LeO (slices_Equal_string_string.f k a0 a1) (slices_Equal_string_string.f (k + 1) a0 a1) := by
  intro a0 a1 k
  have ih0 := slices_Equal_string_string.mono_l k
  unfold slices_Equal_string_string.f
  repeat' first
      | (with_reducible exact ih0 _ _ _ _)
      | (with_reducible exact LeO.refl _)
      | (with_reducible exact LeO.none _)
      | (with_reducible refine LeO.ite ?_ ?_)
      | (with_reducible refine LeO.bind ?_ (fun _ => ?_))
      | exact ih0 _ _ _ _
      | exact LeO.none _
      | refine LeO.ite ?_ ?_
      | refine LeO.bind ?_ (fun _ => ?_)
set_option maxHeartbeats 8000000 in
set_option maxRecDepth 100000 in
theorem slices_Equal_string_string.calls (k : Nat) (A0 : Option Addr) (c0 : Nat) (l0 : List ByteArray) (A1 : Option Addr) (c1 : Nat) (l1 : List ByteArray) (r : Bool) (w : World) (hr0 : Kd.C Kd.string w A0 l0.length l0) (hc0 : l0.length ≤ c0) (hr1 : Kd.C Kd.string w A1 l1.length l1) (hc1 : l1.length ≤ c1) (h : slices_Equal_string_string.f k l0 l1 = some r) :
    Calls Try.prog 31 #[.slice A0 l0.length c0, .slice A1 l1.length c1] w fun e w' => e = .returned (.bool r) ∧ Drawn0 w w' := by
  have HR0 := Aside0.mk hr0
  have HC0 := Aside0.mk hc0
  clear hr0 hc0
  have HR1 := Aside0.mk hr1
  have HC1 := Aside0.mk hc1
  clear hr1 hc1
  have H : (if (l0.length : Int) = (l1.length : Int) then (slices_Equal_string_string.l0 k l0 l1 (l0.length : Int) 0) else (some false)) = some r := h
  clear h
  by_cases c3 : (l0.length : Int) = (l1.length : Int)
  · rw [if_pos c3] at H
    have c3b0 : ((l0.length : Int) == (l1.length : Int)) = true := beq_iff_eq.mpr c3
    have c3b1 : ((l0.length : Int) != (l1.length : Int)) = false := bne_eq_false_iff_eq.mpr c3
    have c3b2 : (l0.length == l1.length) = true := by first | simpa using c3 | (simp at c3 ⊢; omega)
    clear c3
    have H' := Aside0.mk H
    clear H
    go_enter Try.func31, Try.ntmps31
    go_wp2
    repeat (go_quiet (fail); try go_wp2)
    go_loopg [13] k (fun kq v13 w' => ∃ (x13_1 : Int), v13 = .int .i64 x13_1 ∧ Aside0 (slices_Equal_string_string.l0 kq l0 l1 (l0.length : Int) x13_1 = some r) ∧ Aside0 (kq ≤ k) ∧ Drawn0 w w')
    case atStart => exact ⟨(0), (by first | rfl | (simp; done) | (simp [*]; done)), H', ⟨Nat.le_refl _⟩, by repeat (first | exact Drawn0.refl _ | apply Drawn0.step)⟩
    case round =>
      clear H'
      try clear c1
      try clear p2
      try clear c3
      try clear c3b0
      try clear c3b1
      try clear c3b2
      obtain ⟨x13_1, rfl, HA, HK1, ⟨m1, rfl⟩⟩ := hrel
      cases gk with
      | zero => exact absurd HA.out (by simp [slices_Equal_string_string.l0])
      | succ k1 =>
        have H := HA.out
        clear HA
        simp only [slices_Equal_string_string.l0] at H
        by_cases c4 : x13_1 < (l0.length : Int)
        · rw [if_pos c4] at H
          have c4b0 : decide (x13_1 < (l0.length : Int)) = true := decide_eq_true c4
          clear c4
          by_cases c5 : 0 ≤ x13_1
          · rw [if_pos c5] at H
            have c5b0 : decide (0 ≤ x13_1) = true := decide_eq_true c5
            clear c5
            by_cases c6 : x13_1 < (l0.length : Int)
            · rw [if_pos c6] at H
              have c6b0 : decide (x13_1 < (l0.length : Int)) = true := decide_eq_true c6
              clear c6
              by_cases c7 : x13_1 < (l1.length : Int)
              · rw [if_pos c7] at H
                have c7b0 : decide (x13_1 < (l1.length : Int)) = true := decide_eq_true c7
                clear c7
                by_cases c8 : (rdOf ByteArray.empty l0 x13_1).toList = (rdOf ByteArray.empty l1 x13_1).toList
                · rw [if_pos c8] at H
                  have c8b0 : ((rdOf ByteArray.empty l0 x13_1).toList == (rdOf ByteArray.empty l1 x13_1).toList) = true := beq_iff_eq.mpr c8
                  have c8b1 : ((rdOf ByteArray.empty l0 x13_1).toList != (rdOf ByteArray.empty l1 x13_1).toList) = false := bne_eq_false_iff_eq.mpr c8
                  clear c8
                  have H' := Aside0.mk H
                  clear H
                  have p239 : 0 ≤ (x13_1 : Int) := of_decide_eq_true (by first | (with_reducible assumption) | assumption)
                  have q239 : x13_1 < (l0.length : Int) := of_decide_eq_true (by first | (with_reducible assumption) | assumption)
                  obtain ⟨ad239, e239, hx239_0⟩ := Kd.at_string HR0.out x13_1 p239 q239
                  cases e239
                  replace p239 := eq_true p239
                  replace q239 := eq_true q239
                  have p240 : 0 ≤ (x13_1 : Int) := of_decide_eq_true (by first | (with_reducible assumption) | assumption)
                  have q240 : x13_1 < (l1.length : Int) := of_decide_eq_true (by first | (with_reducible assumption) | assumption)
                  obtain ⟨ad240, e240, hx240_0⟩ := Kd.at_string HR1.out x13_1 p240 q240
                  cases e240
                  replace p240 := eq_true p240
                  replace q240 := eq_true q240
                  go_wp2
                  repeat (go_quiet (fail); try go_wp2)
                  go_roundg k1
                  case measure => have := HK1.out; omega
                  case rel => exact ⟨(wrap64 (x13_1 + 1)), (by first | rfl | (simp; done) | (simp [*]; done)), H', ⟨by have := HK1.out; omega⟩, by repeat (first | exact Drawn0.refl _ | apply Drawn0.step)⟩
                · rw [if_neg c8] at H
                  have c8b0 : ((rdOf ByteArray.empty l0 x13_1).toList == (rdOf ByteArray.empty l1 x13_1).toList) = false := beq_eq_false_iff_ne.mpr c8
                  have c8b1 : ((rdOf ByteArray.empty l0 x13_1).toList != (rdOf ByteArray.empty l1 x13_1).toList) = true := bne_iff_ne.mpr c8
                  obtain rfl := Option.some.inj H
                  have p239 : 0 ≤ (x13_1 : Int) := of_decide_eq_true (by first | (with_reducible assumption) | assumption)
                  have q239 : x13_1 < (l0.length : Int) := of_decide_eq_true (by first | (with_reducible assumption) | assumption)
                  obtain ⟨ad239, e239, hx239_0⟩ := Kd.at_string HR0.out x13_1 p239 q239
                  cases e239
                  replace p239 := eq_true p239
                  replace q239 := eq_true q239
                  have p240 : 0 ≤ (x13_1 : Int) := of_decide_eq_true (by first | (with_reducible assumption) | assumption)
                  have q240 : x13_1 < (l1.length : Int) := of_decide_eq_true (by first | (with_reducible assumption) | assumption)
                  obtain ⟨ad240, e240, hx240_0⟩ := Kd.at_string HR1.out x13_1 p240 q240
                  cases e240
                  replace p240 := eq_true p240
                  replace q240 := eq_true q240
                  go_wp2
                  repeat (go_quiet (fail); try go_wp2)
                  go_ret
                  exact ⟨by first | rfl | (simp; done) | (simp [*]; done), by repeat (first | exact Drawn0.refl _ | apply Drawn0.step)⟩
              · rw [if_neg c7] at H
                exact absurd H (by simp)
            · rw [if_neg c6] at H
              exact absurd H (by simp)
          · rw [if_neg c5] at H
            exact absurd H (by simp)
        · rw [if_neg c4] at H
          have c4b0 : decide (x13_1 < (l0.length : Int)) = false := decide_eq_false c4
          clear c4
          obtain rfl := Option.some.inj H
          go_wp2
          repeat (go_quiet (fail); try go_wp2)
          go_ret
          exact ⟨by first | rfl | (simp; done) | (simp [*]; done), by repeat (first | exact Drawn0.refl _ | apply Drawn0.step)⟩
  · rw [if_neg c3] at H
    have c3b0 : ((l0.length : Int) == (l1.length : Int)) = false := beq_eq_false_iff_ne.mpr c3
    have c3b1 : ((l0.length : Int) != (l1.length : Int)) = true := bne_iff_ne.mpr c3
    have c3b2 : (l0.length == l1.length) = false := by first | simpa using c3 | (simp at c3 ⊢; omega)
    obtain rfl := Option.some.inj H
    go_enter Try.func31, Try.ntmps31
    go_wp2
    repeat (go_quiet (fail); try go_wp2)
    go_ret
    exact ⟨by first | rfl | (simp; done) | (simp [*]; done), by repeat (first | exact Drawn0.refl _ | apply Drawn0.step)⟩

end Go.Proofs.Ytdkkgeibifpgiaa.Q
/- By a program of this session's: a plain Lean function for a Go function, and its contract. -/
namespace Go.Proofs.Ytdkkgeibifpgiaa.Q
open Go.RowKit Go.Proofs.YtdkkgeibifpgiaaW.PrintWords Go.Proofs.YtdkkgeibifpgiaaW.PrintLast Go.Proofs.YtdkkgeibifpgiaaW.PrintMore
attribute [local go_sem] max2_int min2_int max_two min_two max_three min_three max_four min_four Go.Proofs.Ytdkkgeibifpgiaa.Ord.str_leq Go.Proofs.Ytdkkgeibifpgiaa.Ord.str_gtr Go.Proofs.Ytdkkgeibifpgiaa.Ord.str_geq   -- for this text's walks alone
set_option linter.unusedVariables false
set_option linter.unusedSimpArgs false

/-! ### recipe_Same_1: function 33 -/
def recipe_Same_1.f (k : Nat) (a0_0 : ByteArray) (l0_1 : List ByteArray) (a1_0 : ByteArray) (l1_1 : List ByteArray) : Option (Bool) := if a0_0.toList = a1_0.toList then ((slices_Equal_string_string.f k l0_1 l1_1).bind fun t246 => (some t246)) else (some false)
theorem recipe_Same_1.mono : ∀ a0 a1 a2 a3 k, LeO (recipe_Same_1.f k a0 a1 a2 a3) (recipe_Same_1.f (k + 1) a0 a1 a2 a3) := by
  intro a0 a1 a2 a3 k
  unfold recipe_Same_1.f
  repeat' first
      | (with_reducible exact slices_Equal_string_string.mono _ _ _)
      | (with_reducible exact LeO.refl _)
      | (with_reducible exact LeO.none _)
      | (with_reducible refine LeO.ite ?_ ?_)
      | (with_reducible refine LeO.bind ?_ (fun _ => ?_))
      | exact slices_Equal_string_string.mono _ _ _
      | exact LeO.none _
      | refine LeO.ite ?_ ?_
      | refine LeO.bind ?_ (fun _ => ?_)
set_option maxHeartbeats 8000000 in
set_option maxRecDepth 100000 in
theorem recipe_Same_1.calls (k : Nat) (a0_0 : ByteArray) (A0_1 : Option Addr) (c0_1 : Nat) (l0_1 : List ByteArray) (a1_0 : ByteArray) (A1_1 : Option Addr) (c1_1 : Nat) (l1_1 : List ByteArray) (r : Bool) (w : World) (hr0_1 : Kd.C Kd.string w A0_1 l0_1.length l0_1) (hc0_1 : l0_1.length ≤ c0_1) (hr1_1 : Kd.C Kd.string w A1_1 l1_1.length l1_1) (hc1_1 : l1_1.length ≤ c1_1) (h : recipe_Same_1.f k a0_0 l0_1 a1_0 l1_1 = some r) :
    Calls Try.prog 33 #[.agg #[.string a0_0, .slice A0_1 l0_1.length c0_1], .agg #[.string a1_0, .slice A1_1 l1_1.length c1_1]] w fun e w' => e = .returned (.bool r) ∧ Below w.heap.size w w' := by
  have hu47 := Try.underlying47
  have HR0_1 := Aside0.mk hr0_1
  have HC0_1 := Aside0.mk hc0_1
  clear hr0_1 hc0_1
  have HR1_1 := Aside0.mk hr1_1
  have HC1_1 := Aside0.mk hc1_1
  clear hr1_1 hc1_1
  have HB := Aside0.mk (Below.refl w.heap.size w)
  have H : (if a0_0.toList = a1_0.toList then ((slices_Equal_string_string.f k l0_1 l1_1).bind fun t246 => (some t246)) else (some false)) = some r := h
  clear h
  by_cases c3 : a0_0.toList = a1_0.toList
  · rw [if_pos c3] at H
    have c3b0 : (a0_0.toList == a1_0.toList) = true := beq_iff_eq.mpr c3
    have c3b1 : (a0_0.toList != a1_0.toList) = false := bne_eq_false_iff_eq.mpr c3
    clear c3
    replace H := Option.bind_eq_some_iff.mp H
    obtain ⟨t246, A40, H⟩ := H
    replace H : (some t246) = some r := H
    have A4 := Aside0.mk A40
    clear A40
    obtain rfl := Option.some.inj H
    go_enter Try.func33, Try.ntmps33
    go_wp2_with (first | ((with_reducible refine gate_dst (N := 2) rfl ?_); refine box_event ?hg (N := 2) ?hd (cs := #[.string a0_0, .slice A0_1 l0_1.length c0_1]) (t := 47) ?hr ?_; (case hd => rfl); (case hg => rfl); (case hr => first | (go_simp; done) | (go_simp; rfl)); intro gb244 hg w5 hbox hb; have n0_ := Aside0.mk (below_step (by repeat (first | (with_reducible first | exact HB.out | apply below_alloc | apply pw_below_drewN | apply below_drew1) | exact HB.out)) hb); have n1_ := Aside0.mk (hbox); have n2_ := Aside0.mk ((by rw [hg]; exact (below_size (by repeat (first | (with_reducible first | exact HB.out | apply below_alloc | apply pw_below_drewN | apply below_drew1) | exact HB.out))) : w.heap.size ≤ gb244)); have n3_ := Aside0.mk ((by rw [hg]; exact (below_size (by repeat (first | (with_reducible first | exact HB.out | apply below_alloc | apply pw_below_drewN | apply below_drew1) | exact HB.out))) : w.heap.size ≤ gb244)); clear HB; have HB := n0_; have BK244 := n1_; have GW244 := n2_; have GE244 := n3_; clear n0_ n1_ n2_ n3_; clear hb hbox hg) | ((with_reducible refine gate_dst (N := 3) rfl ?_); refine box_event ?hg (N := 3) ?hd (cs := #[.string a1_0, .slice A1_1 l1_1.length c1_1]) (t := 47) ?hr ?_; (case hd => rfl); (case hg => rfl); (case hr => first | (go_simp; done) | (go_simp; rfl)); intro gb245 hg w6 hbox hb; have n0_ := Aside0.mk (blk_below (g := gb244) (o := .cells #[.string a0_0, .slice A0_1 l0_1.length c0_1] 47 (0, 0)) (by (with_reducible repeat (first | refine blk_drewN ?_ _ | refine blk_drew ?_ | refine blk_alloc ?_ _)); exact BK244.out) hb); have n1_ := Aside0.mk (below_step (by repeat (first | (with_reducible first | exact HB.out | apply below_alloc | apply pw_below_drewN | apply below_drew1 | refine below_set ?_ GE244.out) | exact HB.out)) hb); have n2_ := Aside0.mk (hbox); have n3_ := Aside0.mk ((by rw [hg]; exact (below_size (by repeat (first | (with_reducible first | exact HB.out | apply below_alloc | apply pw_below_drewN | apply below_drew1 | refine below_set ?_ GE244.out) | exact HB.out))) : w.heap.size ≤ gb245)); have n4_ := Aside0.mk ((by rw [hg]; exact (below_size (by repeat (first | (with_reducible first | exact HB.out | apply below_alloc | apply pw_below_drewN | apply below_drew1 | refine below_set ?_ GE244.out) | exact HB.out))) : w.heap.size ≤ gb245)); have n5_ := Aside0.mk ((by rw [hg]; exact Nat.ne_of_lt (blk_lt (g := gb244) (o := .cells #[.string a0_0, .slice A0_1 l0_1.length c0_1] 47 (0, 0)) (by (with_reducible repeat (first | refine blk_drewN ?_ _ | refine blk_drew ?_ | refine blk_alloc ?_ _)); exact BK244.out)) : gb244 ≠ gb245)); have n6_ := Aside0.mk ((by rw [hg]; exact Nat.ne_of_gt (blk_lt (g := gb244) (o := .cells #[.string a0_0, .slice A0_1 l0_1.length c0_1] 47 (0, 0)) (by (with_reducible repeat (first | refine blk_drewN ?_ _ | refine blk_drew ?_ | refine blk_alloc ?_ _)); exact BK244.out)) : gb245 ≠ gb244)); clear BK244; clear HB; have BK244 := n0_; have HB := n1_; have BK245 := n2_; have GW245 := n3_; have GE245 := n4_; have NB244_245 := n5_; have NB245_244 := n6_; clear n0_ n1_ n2_ n3_ n4_ n5_ n6_; clear hb hbox hg; have hnb7 := NB244_245.out; have hnc7 := NB245_244.out; have hcz8_0 : w6.cell? ⟨gb244, 0, none⟩ = some (.string a0_0) := (blk_cell BK244.out 0).trans rfl; have hcz8_1 : w6.cell? ⟨gb244, 1, none⟩ = some (.slice A0_1 l0_1.length c0_1) := (blk_cell BK244.out 1).trans rfl; have hfz8_0 := blk_frozen BK244.out 0; have hfz8_1 := blk_frozen BK244.out 1; have hcz9_0 : w6.cell? ⟨gb245, 0, none⟩ = some (.string a1_0) := (blk_cell BK245.out 0).trans rfl; have hcz9_1 : w6.cell? ⟨gb245, 1, none⟩ = some (.slice A1_1 l1_1.length c1_1) := (blk_cell BK245.out 1).trans rfl; have hfz9_0 := blk_frozen BK245.out 0; have hfz9_1 := blk_frozen BK245.out 1) | (go_at_call 31; (with_reducible refine (slices_Equal_string_string.calls k _ _ l0_1 _ _ l1_1 t246 _ ?side1 ?side2 ?side3 ?side4 A4.out).mono ?_); (case side1 => repeat (first | exact (Kd.C_below HR0_1.out HB.out) | (with_reducible refine Kd.C_alloc ?_ _) | (with_reducible refine Kd.C_drewN ?_ _) | (with_reducible refine Kd.C_drew ?_))); (case side2 => exact HC0_1.out); (case side3 => repeat (first | exact (Kd.C_below HR1_1.out HB.out) | (with_reducible refine Kd.C_alloc ?_ _) | (with_reducible refine Kd.C_drewN ?_ _) | (with_reducible refine Kd.C_drew ?_))); (case side4 => exact HC1_1.out); rintro e w' ⟨rfl, ⟨nd, rfl⟩⟩))
    go_ret
    exact ⟨by first | rfl | (simp [errW_none, errW_some] <;> rfl) | (simp [*, errW_none, errW_some] <;> rfl), by repeat (first | (with_reducible first | exact HB.out | apply below_alloc | apply pw_below_drewN | apply below_drew1 | refine below_set ?_ GE244.out | refine below_set ?_ GE245.out) | exact HB.out)⟩
  · rw [if_neg c3] at H
    have c3b0 : (a0_0.toList == a1_0.toList) = false := beq_eq_false_iff_ne.mpr c3
    have c3b1 : (a0_0.toList != a1_0.toList) = true := bne_iff_ne.mpr c3
    obtain rfl := Option.some.inj H
    go_enter Try.func33, Try.ntmps33
    go_wp2_with (first | ((with_reducible refine gate_dst (N := 2) rfl ?_); refine box_event ?hg (N := 2) ?hd (cs := #[.string a0_0, .slice A0_1 l0_1.length c0_1]) (t := 47) ?hr ?_; (case hd => rfl); (case hg => rfl); (case hr => first | (go_simp; done) | (go_simp; rfl)); intro gb244 hg w10 hbox hb; have n0_ := Aside0.mk (below_step (by repeat (first | (with_reducible first | exact HB.out | apply below_alloc | apply pw_below_drewN | apply below_drew1) | exact HB.out)) hb); have n1_ := Aside0.mk (hbox); have n2_ := Aside0.mk ((by rw [hg]; exact (below_size (by repeat (first | (with_reducible first | exact HB.out | apply below_alloc | apply pw_below_drewN | apply below_drew1) | exact HB.out))) : w.heap.size ≤ gb244)); have n3_ := Aside0.mk ((by rw [hg]; exact (below_size (by repeat (first | (with_reducible first | exact HB.out | apply below_alloc | apply pw_below_drewN | apply below_drew1) | exact HB.out))) : w.heap.size ≤ gb244)); clear HB; have HB := n0_; have BK244 := n1_; have GW244 := n2_; have GE244 := n3_; clear n0_ n1_ n2_ n3_; clear hb hbox hg) | ((with_reducible refine gate_dst (N := 3) rfl ?_); refine box_event ?hg (N := 3) ?hd (cs := #[.string a1_0, .slice A1_1 l1_1.length c1_1]) (t := 47) ?hr ?_; (case hd => rfl); (case hg => rfl); (case hr => first | (go_simp; done) | (go_simp; rfl)); intro gb245 hg w11 hbox hb; have n0_ := Aside0.mk (blk_below (g := gb244) (o := .cells #[.string a0_0, .slice A0_1 l0_1.length c0_1] 47 (0, 0)) (by (with_reducible repeat (first | refine blk_drewN ?_ _ | refine blk_drew ?_ | refine blk_alloc ?_ _)); exact BK244.out) hb); have n1_ := Aside0.mk (below_step (by repeat (first | (with_reducible first | exact HB.out | apply below_alloc | apply pw_below_drewN | apply below_drew1 | refine below_set ?_ GE244.out) | exact HB.out)) hb); have n2_ := Aside0.mk (hbox); have n3_ := Aside0.mk ((by rw [hg]; exact (below_size (by repeat (first | (with_reducible first | exact HB.out | apply below_alloc | apply pw_below_drewN | apply below_drew1 | refine below_set ?_ GE244.out) | exact HB.out))) : w.heap.size ≤ gb245)); have n4_ := Aside0.mk ((by rw [hg]; exact (below_size (by repeat (first | (with_reducible first | exact HB.out | apply below_alloc | apply pw_below_drewN | apply below_drew1 | refine below_set ?_ GE244.out) | exact HB.out))) : w.heap.size ≤ gb245)); have n5_ := Aside0.mk ((by rw [hg]; exact Nat.ne_of_lt (blk_lt (g := gb244) (o := .cells #[.string a0_0, .slice A0_1 l0_1.length c0_1] 47 (0, 0)) (by (with_reducible repeat (first | refine blk_drewN ?_ _ | refine blk_drew ?_ | refine blk_alloc ?_ _)); exact BK244.out)) : gb244 ≠ gb245)); have n6_ := Aside0.mk ((by rw [hg]; exact Nat.ne_of_gt (blk_lt (g := gb244) (o := .cells #[.string a0_0, .slice A0_1 l0_1.length c0_1] 47 (0, 0)) (by (with_reducible repeat (first | refine blk_drewN ?_ _ | refine blk_drew ?_ | refine blk_alloc ?_ _)); exact BK244.out)) : gb245 ≠ gb244)); clear BK244; clear HB; have BK244 := n0_; have HB := n1_; have BK245 := n2_; have GW245 := n3_; have GE245 := n4_; have NB244_245 := n5_; have NB245_244 := n6_; clear n0_ n1_ n2_ n3_ n4_ n5_ n6_; clear hb hbox hg; have hnb12 := NB244_245.out; have hnc12 := NB245_244.out; have hcz13_0 : w11.cell? ⟨gb244, 0, none⟩ = some (.string a0_0) := (blk_cell BK244.out 0).trans rfl; have hcz13_1 : w11.cell? ⟨gb244, 1, none⟩ = some (.slice A0_1 l0_1.length c0_1) := (blk_cell BK244.out 1).trans rfl; have hfz13_0 := blk_frozen BK244.out 0; have hfz13_1 := blk_frozen BK244.out 1; have hcz14_0 : w11.cell? ⟨gb245, 0, none⟩ = some (.string a1_0) := (blk_cell BK245.out 0).trans rfl; have hcz14_1 : w11.cell? ⟨gb245, 1, none⟩ = some (.slice A1_1 l1_1.length c1_1) := (blk_cell BK245.out 1).trans rfl; have hfz14_0 := blk_frozen BK245.out 0; have hfz14_1 := blk_frozen BK245.out 1))
    go_ret
    exact ⟨by first | rfl | (simp [errW_none, errW_some] <;> rfl) | (simp [*, errW_none, errW_some] <;> rfl), by repeat (first | (with_reducible first | exact HB.out | apply below_alloc | apply pw_below_drewN | apply below_drew1 | refine below_set ?_ GE244.out | refine below_set ?_ GE245.out) | exact HB.out)⟩

end Go.Proofs.Ytdkkgeibifpgiaa.Q
/- By a program of this session's: a plain Lean function for a Go function, and its contract. -/
namespace Go.Proofs.Ytdkkgeibifpgiaa.Q
open Go.RowKit Go.Proofs.YtdkkgeibifpgiaaW.PrintWords Go.Proofs.YtdkkgeibifpgiaaW.PrintLast Go.Proofs.YtdkkgeibifpgiaaW.PrintMore
attribute [local go_sem] max2_int min2_int max_two min_two max_three min_three max_four min_four Go.Proofs.Ytdkkgeibifpgiaa.Ord.str_leq Go.Proofs.Ytdkkgeibifpgiaa.Ord.str_gtr Go.Proofs.Ytdkkgeibifpgiaa.Ord.str_geq   -- for this text's walks alone
set_option linter.unusedVariables false
set_option linter.unusedSimpArgs false

/-! ### depotlaw21_texts: function 27 -/
def depotlaw21_texts.l0 : Nat → List ByteArray → List ByteArray → Int → Int → Option (Bool)
  | 0, _, _, _, _ => none
  | k + 1, x0, x1, x12, x13 => if x13 < x12 then (if 0 ≤ x13 then (if x13 < (x0.length : Int) then (if x13 < (x1.length : Int) then (if (rdOf ByteArray.empty x0 x13).toList = (rdOf ByteArray.empty x1 x13).toList then (depotlaw21_texts.l0 k x0 x1 x12 (wrap64 (x13 + 1))) else (some false)) else (none)) else (none)) else (none)) else (some true)
def depotlaw21_texts.f (k : Nat) (l0 : List ByteArray) (l1 : List ByteArray) : Option (Bool) := if (l0.length : Int) = (l1.length : Int) then (depotlaw21_texts.l0 k l0 l1 (l0.length : Int) 0) else (some false)
theorem depotlaw21_texts.mono_l : ∀ k, (∀ y0 y1 y2 y3, LeO (depotlaw21_texts.l0 k y0 y1 y2 y3) (depotlaw21_texts.l0 (k + 1) y0 y1 y2 y3))
  | 0 => fun _ _ _ _ r h => by simp [depotlaw21_texts.l0] at h
  | k + 1 => by
    have ih0 := depotlaw21_texts.mono_l k
    · intro y0 y1 y2 y3
      unfold depotlaw21_texts.l0
      repeat' first
      | (with_reducible exact ih0 _ _ _ _)
      | (with_reducible exact LeO.refl _)
      | (with_reducible exact LeO.none _)
      | (with_reducible refine LeO.ite ?_ ?_)
      | (with_reducible refine LeO.bind ?_ (fun _ => ?_))
      | exact ih0 _ _ _ _
      | exact LeO.none _
      | refine LeO.ite ?_ ?_
      | refine LeO.bind ?_ (fun _ => ?_)
theorem depotlaw21_texts.mono : ∀ a0 a1 k, LeO (depotlaw21_texts.f k a0 a1) (depotlaw21_texts.f (k + 1) a0 a1) := by
  intro a0 a1 k
  have ih0 := depotlaw21_texts.mono_l k
  unfold depotlaw21_texts.f
  repeat' first
      | (with_reducible exact ih0 _ _ _ _)
      | (with_reducible exact LeO.refl _)
      | (with_reducible exact LeO.none _)
      | (with_reducible refine LeO.ite ?_ ?_)
      | (with_reducible refine LeO.bind ?_ (fun _ => ?_))
      | exact ih0 _ _ _ _
      | exact LeO.none _
      | refine LeO.ite ?_ ?_
      | refine LeO.bind ?_ (fun _ => ?_)
set_option maxHeartbeats 8000000 in
set_option maxRecDepth 100000 in
theorem depotlaw21_texts.calls (k : Nat) (A0 : Option Addr) (c0 : Nat) (l0 : List ByteArray) (A1 : Option Addr) (c1 : Nat) (l1 : List ByteArray) (r : Bool) (w : World) (hr0 : Kd.C Kd.string w A0 l0.length l0) (hc0 : l0.length ≤ c0) (hr1 : Kd.C Kd.string w A1 l1.length l1) (hc1 : l1.length ≤ c1) (h : depotlaw21_texts.f k l0 l1 = some r) :
    Calls Try.prog 27 #[.slice A0 l0.length c0, .slice A1 l1.length c1] w fun e w' => e = .returned (.bool r) ∧ Drawn0 w w' := by
  have HR0 := Aside0.mk hr0
  have HC0 := Aside0.mk hc0
  clear hr0 hc0
  have HR1 := Aside0.mk hr1
  have HC1 := Aside0.mk hc1
  clear hr1 hc1
  have H : (if (l0.length : Int) = (l1.length : Int) then (depotlaw21_texts.l0 k l0 l1 (l0.length : Int) 0) else (some false)) = some r := h
  clear h
  by_cases c3 : (l0.length : Int) = (l1.length : Int)
  · rw [if_pos c3] at H
    have c3b0 : ((l0.length : Int) == (l1.length : Int)) = true := beq_iff_eq.mpr c3
    have c3b1 : ((l0.length : Int) != (l1.length : Int)) = false := bne_eq_false_iff_eq.mpr c3
    have c3b2 : (l0.length == l1.length) = true := by first | simpa using c3 | (simp at c3 ⊢; omega)
    clear c3
    have H' := Aside0.mk H
    clear H
    go_enter Try.func27, Try.ntmps27
    go_wp2
    repeat (go_quiet (fail); try go_wp2)
    go_loopg [13] k (fun kq v13 w' => ∃ (x13_1 : Int), v13 = .int .i64 x13_1 ∧ Aside0 (depotlaw21_texts.l0 kq l0 l1 (l0.length : Int) x13_1 = some r) ∧ Aside0 (kq ≤ k) ∧ Drawn0 w w')
    case atStart => exact ⟨(0), (by first | rfl | (simp; done) | (simp [*]; done)), H', ⟨Nat.le_refl _⟩, by repeat (first | exact Drawn0.refl _ | apply Drawn0.step)⟩
    case round =>
      clear H'
      try clear c1
      try clear c2
      try clear p2
      try clear c3
      try clear c3b0
      try clear c3b1
      try clear c3b2
      obtain ⟨x13_1, rfl, HA, HK1, ⟨m1, rfl⟩⟩ := hrel
      cases gk with
      | zero => exact absurd HA.out (by simp [depotlaw21_texts.l0])
      | succ k1 =>
        have H := HA.out
        clear HA
        simp only [depotlaw21_texts.l0] at H
        by_cases c4 : x13_1 < (l0.length : Int)
        · rw [if_pos c4] at H
          have c4b0 : decide (x13_1 < (l0.length : Int)) = true := decide_eq_true c4
          clear c4
          by_cases c5 : 0 ≤ x13_1
          · rw [if_pos c5] at H
            have c5b0 : decide (0 ≤ x13_1) = true := decide_eq_true c5
            clear c5
            by_cases c6 : x13_1 < (l0.length : Int)
            · rw [if_pos c6] at H
              have c6b0 : decide (x13_1 < (l0.length : Int)) = true := decide_eq_true c6
              clear c6
              by_cases c7 : x13_1 < (l1.length : Int)
              · rw [if_pos c7] at H
                have c7b0 : decide (x13_1 < (l1.length : Int)) = true := decide_eq_true c7
                clear c7
                by_cases c8 : (rdOf ByteArray.empty l0 x13_1).toList = (rdOf ByteArray.empty l1 x13_1).toList
                · rw [if_pos c8] at H
                  have c8b0 : ((rdOf ByteArray.empty l0 x13_1).toList == (rdOf ByteArray.empty l1 x13_1).toList) = true := beq_iff_eq.mpr c8
                  have c8b1 : ((rdOf ByteArray.empty l0 x13_1).toList != (rdOf ByteArray.empty l1 x13_1).toList) = false := bne_eq_false_iff_eq.mpr c8
                  clear c8
                  have H' := Aside0.mk H
                  clear H
                  have p219 : 0 ≤ (x13_1 : Int) := of_decide_eq_true (by first | (with_reducible assumption) | assumption)
                  have q219 : x13_1 < (l0.length : Int) := of_decide_eq_true (by first | (with_reducible assumption) | assumption)
                  obtain ⟨ad219, e219, hx219_0⟩ := Kd.at_string HR0.out x13_1 p219 q219
                  cases e219
                  replace p219 := eq_true p219
                  replace q219 := eq_true q219
                  have p220 : 0 ≤ (x13_1 : Int) := of_decide_eq_true (by first | (with_reducible assumption) | assumption)
                  have q220 : x13_1 < (l1.length : Int) := of_decide_eq_true (by first | (with_reducible assumption) | assumption)
                  obtain ⟨ad220, e220, hx220_0⟩ := Kd.at_string HR1.out x13_1 p220 q220
                  cases e220
                  replace p220 := eq_true p220
                  replace q220 := eq_true q220
                  go_wp2
                  repeat (go_quiet (fail); try go_wp2)
                  go_roundg k1
                  case measure => have := HK1.out; omega
                  case rel => exact ⟨(wrap64 (x13_1 + 1)), (by first | rfl | (simp; done) | (simp [*]; done)), H', ⟨by have := HK1.out; omega⟩, by repeat (first | exact Drawn0.refl _ | apply Drawn0.step)⟩
                · rw [if_neg c8] at H
                  have c8b0 : ((rdOf ByteArray.empty l0 x13_1).toList == (rdOf ByteArray.empty l1 x13_1).toList) = false := beq_eq_false_iff_ne.mpr c8
                  have c8b1 : ((rdOf ByteArray.empty l0 x13_1).toList != (rdOf ByteArray.empty l1 x13_1).toList) = true := bne_iff_ne.mpr c8
                  obtain rfl := Option.some.inj H
                  have p219 : 0 ≤ (x13_1 : Int) := of_decide_eq_true (by first | (with_reducible assumption) | assumption)
                  have q219 : x13_1 < (l0.length : Int) := of_decide_eq_true (by first | (with_reducible assumption) | assumption)
                  obtain ⟨ad219, e219, hx219_0⟩ := Kd.at_string HR0.out x13_1 p219 q219
                  cases e219
                  replace p219 := eq_true p219
                  replace q219 := eq_true q219
                  have p220 : 0 ≤ (x13_1 : Int) := of_decide_eq_true (by first | (with_reducible assumption) | assumption)
                  have q220 : x13_1 < (l1.length : Int) := of_decide_eq_true (by first | (with_reducible assumption) | assumption)
                  obtain ⟨ad220, e220, hx220_0⟩ := Kd.at_string HR1.out x13_1 p220 q220
                  cases e220
                  replace p220 := eq_true p220
                  replace q220 := eq_true q220
                  go_wp2
                  repeat (go_quiet (fail); try go_wp2)
                  go_ret
                  exact ⟨by first | rfl | (simp; done) | (simp [*]; done), by repeat (first | exact Drawn0.refl _ | apply Drawn0.step)⟩
              · rw [if_neg c7] at H
                exact absurd H (by simp)
            · rw [if_neg c6] at H
              exact absurd H (by simp)
          · rw [if_neg c5] at H
            exact absurd H (by simp)
        · rw [if_neg c4] at H
          have c4b0 : decide (x13_1 < (l0.length : Int)) = false := decide_eq_false c4
          clear c4
          obtain rfl := Option.some.inj H
          go_wp2
          repeat (go_quiet (fail); try go_wp2)
          go_ret
          exact ⟨by first | rfl | (simp; done) | (simp [*]; done), by repeat (first | exact Drawn0.refl _ | apply Drawn0.step)⟩
  · rw [if_neg c3] at H
    have c3b0 : ((l0.length : Int) == (l1.length : Int)) = false := beq_eq_false_iff_ne.mpr c3
    have c3b1 : ((l0.length : Int) != (l1.length : Int)) = true := bne_iff_ne.mpr c3
    have c3b2 : (l0.length == l1.length) = false := by first | simpa using c3 | (simp at c3 ⊢; omega)
    obtain rfl := Option.some.inj H
    go_enter Try.func27, Try.ntmps27
    go_wp2
    repeat (go_quiet (fail); try go_wp2)
    go_ret
    exact ⟨by first | rfl | (simp; done) | (simp [*]; done), by repeat (first | exact Drawn0.refl _ | apply Drawn0.step)⟩

end Go.Proofs.Ytdkkgeibifpgiaa.Q
/- By a program of this session's: a plain Lean function for a Go function, and its contract. -/
namespace Go.Proofs.Ytdkkgeibifpgiaa.Q
open Go.RowKit Go.Proofs.YtdkkgeibifpgiaaW.PrintWords Go.Proofs.YtdkkgeibifpgiaaW.PrintLast Go.Proofs.YtdkkgeibifpgiaaW.PrintMore
attribute [local go_sem] max2_int min2_int max_two min_two max_three min_three max_four min_four Go.Proofs.Ytdkkgeibifpgiaa.Ord.str_leq Go.Proofs.Ytdkkgeibifpgiaa.Ord.str_gtr Go.Proofs.Ytdkkgeibifpgiaa.Ord.str_geq   -- for this text's walks alone
set_option linter.unusedVariables false
set_option linter.unusedSimpArgs false

/-! ### depotlaw21_alike: function 11 -/
mutual
def depotlaw21_alike.j0 : Nat → Bool → ByteArray → List ByteArray → List (S66) → ByteArray → List ByteArray → List (S66) → Option (Bool)
  | 0, _, _, _, _, _, _, _ => none
  | k + 1, x27, x222000, x222001, x222002, x223000, x223001, x223002 => if x27 = true then (some false) else (depotlaw21_alike.l0 k (x222002.length : Int) 0 x222000 x222001 x222002 x223000 x223001 x223002)
def depotlaw21_alike.l0 : Nat → Int → Int → ByteArray → List ByteArray → List (S66) → ByteArray → List ByteArray → List (S66) → Option (Bool)
  | 0, _, _, _, _, _, _, _, _ => none
  | k + 1, x30, x31, x222000, x222001, x222002, x223000, x223001, x223002 => if x31 < x30 then (if 0 ≤ x31 then (if x31 < (x222002.length : Int) then (if x31 < (x223002.length : Int) then (if ((rd_T66 x222002 x31).f0).toList = ((rd_T66 x223002 x31).f0).toList then ((depotlaw21_texts.f k ((rd_T66 x222002 x31).f1) ((rd_T66 x223002 x31).f1)).bind fun t228 => (if t228 = true then (depotlaw21_alike.l0 k x30 (wrap64 (x31 + 1)) x222000 x222001 x222002 x223000 x223001 x223002) else (some false))) else (some false)) else (none)) else (none)) else (none)) else (some true)
end
def depotlaw21_alike.f (k : Nat) (a0_0 : ByteArray) (l0_1 : List ByteArray) (l0_2 : List (S66)) (a1_0 : ByteArray) (l1_1 : List ByteArray) (l1_2 : List (S66)) : Option (Bool) := if a0_0.toList = a1_0.toList then ((depotlaw21_texts.f k l0_1 l1_1).bind fun t223 => (if t223 = true then (depotlaw21_alike.j0 k ((l0_2.length : Int) != (l1_2.length : Int)) a0_0 l0_1 l0_2 a1_0 l1_1 l1_2) else (depotlaw21_alike.j0 k true a0_0 l0_1 l0_2 a1_0 l1_1 l1_2))) else (depotlaw21_alike.j0 k true a0_0 l0_1 l0_2 a1_0 l1_1 l1_2)
theorem depotlaw21_alike.mono_l : ∀ k, (∀ y0 y1 y2 y3 y4 y5 y6, LeO (depotlaw21_alike.j0 k y0 y1 y2 y3 y4 y5 y6) (depotlaw21_alike.j0 (k + 1) y0 y1 y2 y3 y4 y5 y6)) ∧ (∀ y0 y1 y2 y3 y4 y5 y6 y7, LeO (depotlaw21_alike.l0 k y0 y1 y2 y3 y4 y5 y6 y7) (depotlaw21_alike.l0 (k + 1) y0 y1 y2 y3 y4 y5 y6 y7))
  | 0 => ⟨fun _ _ _ _ _ _ _ r h => by simp [depotlaw21_alike.j0] at h, fun _ _ _ _ _ _ _ _ r h => by simp [depotlaw21_alike.l0] at h⟩
  | k + 1 => by
    obtain ⟨ih0, ih1⟩ := depotlaw21_alike.mono_l k
    refine ⟨?_, ?_⟩
    · intro y0 y1 y2 y3 y4 y5 y6
      unfold depotlaw21_alike.j0
      repeat' first
      | (with_reducible exact ih0 _ _ _ _ _ _ _)
      | (with_reducible exact ih1 _ _ _ _ _ _ _ _)
      | (with_reducible exact depotlaw21_texts.mono _ _ _)
      | (with_reducible exact LeO.refl _)
      | (with_reducible exact LeO.none _)
      | (with_reducible refine LeO.ite ?_ ?_)
      | (with_reducible refine LeO.bind ?_ (fun _ => ?_))
      | exact ih0 _ _ _ _ _ _ _
      | exact ih1 _ _ _ _ _ _ _ _
      | exact depotlaw21_texts.mono _ _ _
      | exact LeO.none _
      | refine LeO.ite ?_ ?_
      | refine LeO.bind ?_ (fun _ => ?_)
    · intro y0 y1 y2 y3 y4 y5 y6 y7
      unfold depotlaw21_alike.l0
      repeat' first
      | (with_reducible exact ih0 _ _ _ _ _ _ _)
      | (with_reducible exact ih1 _ _ _ _ _ _ _ _)
      | (with_reducible exact depotlaw21_texts.mono _ _ _)
      | (with_reducible exact LeO.refl _)
      | (with_reducible exact LeO.none _)
      | (with_reducible refine LeO.ite ?_ ?_)
      | (with_reducible refine LeO.bind ?_ (fun _ => ?_))
      | exact ih0 _ _ _ _ _ _ _
      | exact ih1 _ _ _ _ _ _ _ _
      | exact depotlaw21_texts.mono _ _ _
      | exact LeO.none _
      | refine LeO.ite ?_ ?_
      | refine LeO.bind ?_ (fun _ => ?_)
theorem depotlaw21_alike.mono : ∀ a0 a1 a2 a3 a4 a5 k, LeO (depotlaw21_alike.f k a0 a1 a2 a3 a4 a5) (depotlaw21_alike.f (k + 1) a0 a1 a2 a3 a4 a5) := by
  intro a0 a1 a2 a3 a4 a5 k
  obtain ⟨ih0, ih1⟩ := depotlaw21_alike.mono_l k
  unfold depotlaw21_alike.f
  repeat' first
      | (with_reducible exact ih0 _ _ _ _ _ _ _)
      | (with_reducible exact ih1 _ _ _ _ _ _ _ _)
      | (with_reducible exact depotlaw21_texts.mono _ _ _)
      | (with_reducible exact LeO.refl _)
      | (with_reducible exact LeO.none _)
      | (with_reducible refine LeO.ite ?_ ?_)
      | (with_reducible refine LeO.bind ?_ (fun _ => ?_))
      | exact ih0 _ _ _ _ _ _ _
      | exact ih1 _ _ _ _ _ _ _ _
      | exact depotlaw21_texts.mono _ _ _
      | exact LeO.none _
      | refine LeO.ite ?_ ?_
      | refine LeO.bind ?_ (fun _ => ?_)
set_option maxHeartbeats 8000000 in
set_option maxRecDepth 100000 in
theorem depotlaw21_alike.calls (k : Nat) (a0_0 : ByteArray) (A0_1 : Option Addr) (c0_1 : Nat) (l0_1 : List ByteArray) (A0_2 : Option Addr) (c0_2 : Nat) (l0_2 : List (S66)) (a1_0 : ByteArray) (A1_1 : Option Addr) (c1_1 : Nat) (l1_1 : List ByteArray) (A1_2 : Option Addr) (c1_2 : Nat) (l1_2 : List (S66)) (r : Bool) (w : World) (hr0_1 : Kd.C Kd.string w A0_1 l0_1.length l0_1) (hc0_1 : l0_1.length ≤ c0_1) (hr0_2 : Kd.C k66 w A0_2 l0_2.length l0_2) (hc0_2 : l0_2.length ≤ c0_2) (hr1_1 : Kd.C Kd.string w A1_1 l1_1.length l1_1) (hc1_1 : l1_1.length ≤ c1_1) (hr1_2 : Kd.C k66 w A1_2 l1_2.length l1_2) (hc1_2 : l1_2.length ≤ c1_2) (h : depotlaw21_alike.f k a0_0 l0_1 l0_2 a1_0 l1_1 l1_2 = some r) :
    Calls Try.prog 11 #[.agg #[.string a0_0, .slice A0_1 l0_1.length c0_1, .slice A0_2 l0_2.length c0_2], .agg #[.string a1_0, .slice A1_1 l1_1.length c1_1, .slice A1_2 l1_2.length c1_2]] w fun e w' => e = .returned (.bool r) ∧ Below w.heap.size w w' := by
  have hu33 := Try.underlying33
  have HR0_1 := Aside0.mk hr0_1
  have HC0_1 := Aside0.mk hc0_1
  clear hr0_1 hc0_1
  have HR0_2 := Aside0.mk hr0_2
  have HC0_2 := Aside0.mk hc0_2
  clear hr0_2 hc0_2
  have HR1_1 := Aside0.mk hr1_1
  have HC1_1 := Aside0.mk hc1_1
  clear hr1_1 hc1_1
  have HR1_2 := Aside0.mk hr1_2
  have HC1_2 := Aside0.mk hc1_2
  clear hr1_2 hc1_2
  have HB := Aside0.mk (Below.refl w.heap.size w)
  have H : (if a0_0.toList = a1_0.toList then ((depotlaw21_texts.f k l0_1 l1_1).bind fun t223 => (if t223 = true then (depotlaw21_alike.j0 k ((l0_2.length : Int) != (l1_2.length : Int)) a0_0 l0_1 l0_2 a1_0 l1_1 l1_2) else (depotlaw21_alike.j0 k true a0_0 l0_1 l0_2 a1_0 l1_1 l1_2))) else (depotlaw21_alike.j0 k true a0_0 l0_1 l0_2 a1_0 l1_1 l1_2)) = some r := h
  clear h
  have HC3 := Aside0.mk H
  clear H
  go_enter Try.func11, Try.ntmps11
  go_upto_region 1 with (first | ((with_reducible refine gate_dst (N := 2) rfl ?_); (try (refine gate_guard (by rfl) ?_; dsimp only)); refine box_event ?hg (N := 2) ?hd (cs := #[.string a0_0, .slice A0_1 l0_1.length c0_1, .slice A0_2 l0_2.length c0_2]) (t := 33) ?hr ?_; (case hd => rfl); (case hg => rfl); (case hr => first | (go_simp; done) | (go_simp; rfl)); intro gb221 hg w4 hbox hb; have n0_ := Aside0.mk (below_step (by repeat (first | (with_reducible first | exact HB.out | apply below_alloc | apply pw_below_drewN | apply below_drew1) | exact HB.out)) hb); have n1_ := Aside0.mk (hbox); have n2_ := Aside0.mk ((by rw [hg]; exact (below_size (by repeat (first | (with_reducible first | exact HB.out | apply below_alloc | apply pw_below_drewN | apply below_drew1) | exact HB.out))) : w.heap.size ≤ gb221)); have n3_ := Aside0.mk ((by rw [hg]; exact (below_size (by repeat (first | (with_reducible first | exact HB.out | apply below_alloc | apply pw_below_drewN | apply below_drew1) | exact HB.out))) : w.heap.size ≤ gb221)); clear HB; have HB := n0_; have BK221 := n1_; have GW221 := n2_; have GE221 := n3_; clear n0_ n1_ n2_ n3_; clear hb hbox hg) | ((with_reducible refine gate_dst (N := 3) rfl ?_); (try (refine gate_guard (by rfl) ?_; dsimp only)); refine box_event ?hg (N := 3) ?hd (cs := #[.string a1_0, .slice A1_1 l1_1.length c1_1, .slice A1_2 l1_2.length c1_2]) (t := 33) ?hr ?_; (case hd => rfl); (case hg => rfl); (case hr => first | (go_simp; done) | (go_simp; rfl)); intro gb222 hg w5 hbox hb; have n0_ := Aside0.mk (blk_below (g := gb221) (o := .cells #[.string a0_0, .slice A0_1 l0_1.length c0_1, .slice A0_2 l0_2.length c0_2] 33 (0, 0)) (by (with_reducible repeat (first | refine blk_drewN ?_ _ | refine blk_drew ?_ | refine blk_alloc ?_ _)); exact BK221.out) hb); have n1_ := Aside0.mk (below_step (by repeat (first | (with_reducible first | exact HB.out | apply below_alloc | apply pw_below_drewN | apply below_drew1 | refine below_set ?_ GE221.out) | exact HB.out)) hb); have n2_ := Aside0.mk (hbox); have n3_ := Aside0.mk ((by rw [hg]; exact (below_size (by repeat (first | (with_reducible first | exact HB.out | apply below_alloc | apply pw_below_drewN | apply below_drew1 | refine below_set ?_ GE221.out) | exact HB.out))) : w.heap.size ≤ gb222)); have n4_ := Aside0.mk ((by rw [hg]; exact (below_size (by repeat (first | (with_reducible first | exact HB.out | apply below_alloc | apply pw_below_drewN | apply below_drew1 | refine below_set ?_ GE221.out) | exact HB.out))) : w.heap.size ≤ gb222)); have n5_ := Aside0.mk ((by rw [hg]; exact Nat.ne_of_lt (blk_lt (g := gb221) (o := .cells #[.string a0_0, .slice A0_1 l0_1.length c0_1, .slice A0_2 l0_2.length c0_2] 33 (0, 0)) (by (with_reducible repeat (first | refine blk_drewN ?_ _ | refine blk_drew ?_ | refine blk_alloc ?_ _)); exact BK221.out)) : gb221 ≠ gb222)); have n6_ := Aside0.mk ((by rw [hg]; exact Nat.ne_of_gt (blk_lt (g := gb221) (o := .cells #[.string a0_0, .slice A0_1 l0_1.length c0_1, .slice A0_2 l0_2.length c0_2] 33 (0, 0)) (by (with_reducible repeat (first | refine blk_drewN ?_ _ | refine blk_drew ?_ | refine blk_alloc ?_ _)); exact BK221.out)) : gb222 ≠ gb221)); clear BK221; clear HB; have BK221 := n0_; have HB := n1_; have BK222 := n2_; have GW222 := n3_; have GE222 := n4_; have NB221_222 := n5_; have NB222_221 := n6_; clear n0_ n1_ n2_ n3_ n4_ n5_ n6_; clear hb hbox hg))
  repeat (go_quiet (first | ((with_reducible refine gate_dst (N := 2) rfl ?_); (try (refine gate_guard (by rfl) ?_; dsimp only)); refine box_event ?hg (N := 2) ?hd (cs := #[.string a0_0, .slice A0_1 l0_1.length c0_1, .slice A0_2 l0_2.length c0_2]) (t := 33) ?hr ?_; (case hd => rfl); (case hg => rfl); (case hr => first | (go_simp; done) | (go_simp; rfl)); intro gb221 hg w4 hbox hb; have n0_ := Aside0.mk (below_step (by repeat (first | (with_reducible first | exact HB.out | apply below_alloc | apply pw_below_drewN | apply below_drew1) | exact HB.out)) hb); have n1_ := Aside0.mk (hbox); have n2_ := Aside0.mk ((by rw [hg]; exact (below_size (by repeat (first | (with_reducible first | exact HB.out | apply below_alloc | apply pw_below_drewN | apply below_drew1) | exact HB.out))) : w.heap.size ≤ gb221)); have n3_ := Aside0.mk ((by rw [hg]; exact (below_size (by repeat (first | (with_reducible first | exact HB.out | apply below_alloc | apply pw_below_drewN | apply below_drew1) | exact HB.out))) : w.heap.size ≤ gb221)); clear HB; have HB := n0_; have BK221 := n1_; have GW221 := n2_; have GE221 := n3_; clear n0_ n1_ n2_ n3_; clear hb hbox hg) | ((with_reducible refine gate_dst (N := 3) rfl ?_); (try (refine gate_guard (by rfl) ?_; dsimp only)); refine box_event ?hg (N := 3) ?hd (cs := #[.string a1_0, .slice A1_1 l1_1.length c1_1, .slice A1_2 l1_2.length c1_2]) (t := 33) ?hr ?_; (case hd => rfl); (case hg => rfl); (case hr => first | (go_simp; done) | (go_simp; rfl)); intro gb222 hg w5 hbox hb; have n0_ := Aside0.mk (blk_below (g := gb221) (o := .cells #[.string a0_0, .slice A0_1 l0_1.length c0_1, .slice A0_2 l0_2.length c0_2] 33 (0, 0)) (by (with_reducible repeat (first | refine blk_drewN ?_ _ | refine blk_drew ?_ | refine blk_alloc ?_ _)); exact BK221.out) hb); have n1_ := Aside0.mk (below_step (by repeat (first | (with_reducible first | exact HB.out | apply below_alloc | apply pw_below_drewN | apply below_drew1 | refine below_set ?_ GE221.out) | exact HB.out)) hb); have n2_ := Aside0.mk (hbox); have n3_ := Aside0.mk ((by rw [hg]; exact (below_size (by repeat (first | (with_reducible first | exact HB.out | apply below_alloc | apply pw_below_drewN | apply below_drew1 | refine below_set ?_ GE221.out) | exact HB.out))) : w.heap.size ≤ gb222)); have n4_ := Aside0.mk ((by rw [hg]; exact (below_size (by repeat (first | (with_reducible first | exact HB.out | apply below_alloc | apply pw_below_drewN | apply below_drew1 | refine below_set ?_ GE221.out) | exact HB.out))) : w.heap.size ≤ gb222)); have n5_ := Aside0.mk ((by rw [hg]; exact Nat.ne_of_lt (blk_lt (g := gb221) (o := .cells #[.string a0_0, .slice A0_1 l0_1.length c0_1, .slice A0_2 l0_2.length c0_2] 33 (0, 0)) (by (with_reducible repeat (first | refine blk_drewN ?_ _ | refine blk_drew ?_ | refine blk_alloc ?_ _)); exact BK221.out)) : gb221 ≠ gb222)); have n6_ := Aside0.mk ((by rw [hg]; exact Nat.ne_of_gt (blk_lt (g := gb221) (o := .cells #[.string a0_0, .slice A0_1 l0_1.length c0_1, .slice A0_2 l0_2.length c0_2] 33 (0, 0)) (by (with_reducible repeat (first | refine blk_drewN ?_ _ | refine blk_drew ?_ | refine blk_alloc ?_ _)); exact BK221.out)) : gb222 ≠ gb221)); clear BK221; clear HB; have BK221 := n0_; have HB := n1_; have BK222 := n2_; have GW222 := n3_; have GE222 := n4_; have NB221_222 := n5_; have NB222_221 := n6_; clear n0_ n1_ n2_ n3_ n4_ n5_ n6_; clear hb hbox hg)); go_upto_region 1 with (first | ((with_reducible refine gate_dst (N := 2) rfl ?_); (try (refine gate_guard (by rfl) ?_; dsimp only)); refine box_event ?hg (N := 2) ?hd (cs := #[.string a0_0, .slice A0_1 l0_1.length c0_1, .slice A0_2 l0_2.length c0_2]) (t := 33) ?hr ?_; (case hd => rfl); (case hg => rfl); (case hr => first | (go_simp; done) | (go_simp; rfl)); intro gb221 hg w4 hbox hb; have n0_ := Aside0.mk (below_step (by repeat (first | (with_reducible first | exact HB.out | apply below_alloc | apply pw_below_drewN | apply below_drew1) | exact HB.out)) hb); have n1_ := Aside0.mk (hbox); have n2_ := Aside0.mk ((by rw [hg]; exact (below_size (by repeat (first | (with_reducible first | exact HB.out | apply below_alloc | apply pw_below_drewN | apply below_drew1) | exact HB.out))) : w.heap.size ≤ gb221)); have n3_ := Aside0.mk ((by rw [hg]; exact (below_size (by repeat (first | (with_reducible first | exact HB.out | apply below_alloc | apply pw_below_drewN | apply below_drew1) | exact HB.out))) : w.heap.size ≤ gb221)); clear HB; have HB := n0_; have BK221 := n1_; have GW221 := n2_; have GE221 := n3_; clear n0_ n1_ n2_ n3_; clear hb hbox hg) | ((with_reducible refine gate_dst (N := 3) rfl ?_); (try (refine gate_guard (by rfl) ?_; dsimp only)); refine box_event ?hg (N := 3) ?hd (cs := #[.string a1_0, .slice A1_1 l1_1.length c1_1, .slice A1_2 l1_2.length c1_2]) (t := 33) ?hr ?_; (case hd => rfl); (case hg => rfl); (case hr => first | (go_simp; done) | (go_simp; rfl)); intro gb222 hg w5 hbox hb; have n0_ := Aside0.mk (blk_below (g := gb221) (o := .cells #[.string a0_0, .slice A0_1 l0_1.length c0_1, .slice A0_2 l0_2.length c0_2] 33 (0, 0)) (by (with_reducible repeat (first | refine blk_drewN ?_ _ | refine blk_drew ?_ | refine blk_alloc ?_ _)); exact BK221.out) hb); have n1_ := Aside0.mk (below_step (by repeat (first | (with_reducible first | exact HB.out | apply below_alloc | apply pw_below_drewN | apply below_drew1 | refine below_set ?_ GE221.out) | exact HB.out)) hb); have n2_ := Aside0.mk (hbox); have n3_ := Aside0.mk ((by rw [hg]; exact (below_size (by repeat (first | (with_reducible first | exact HB.out | apply below_alloc | apply pw_below_drewN | apply below_drew1 | refine below_set ?_ GE221.out) | exact HB.out))) : w.heap.size ≤ gb222)); have n4_ := Aside0.mk ((by rw [hg]; exact (below_size (by repeat (first | (with_reducible first | exact HB.out | apply below_alloc | apply pw_below_drewN | apply below_drew1 | refine below_set ?_ GE221.out) | exact HB.out))) : w.heap.size ≤ gb222)); have n5_ := Aside0.mk ((by rw [hg]; exact Nat.ne_of_lt (blk_lt (g := gb221) (o := .cells #[.string a0_0, .slice A0_1 l0_1.length c0_1, .slice A0_2 l0_2.length c0_2] 33 (0, 0)) (by (with_reducible repeat (first | refine blk_drewN ?_ _ | refine blk_drew ?_ | refine blk_alloc ?_ _)); exact BK221.out)) : gb221 ≠ gb222)); have n6_ := Aside0.mk ((by rw [hg]; exact Nat.ne_of_gt (blk_lt (g := gb221) (o := .cells #[.string a0_0, .slice A0_1 l0_1.length c0_1, .slice A0_2 l0_2.length c0_2] 33 (0, 0)) (by (with_reducible repeat (first | refine blk_drewN ?_ _ | refine blk_drew ?_ | refine blk_alloc ?_ _)); exact BK221.out)) : gb222 ≠ gb221)); clear BK221; clear HB; have BK221 := n0_; have HB := n1_; have BK222 := n2_; have GW222 := n3_; have GE222 := n4_; have NB221_222 := n5_; have NB222_221 := n6_; clear n0_ n1_ n2_ n3_ n4_ n5_ n6_; clear hb hbox hg)))
  (try simp only [Act.put, List.setIfInBounds_toArray, List.set_cons_zero, List.set_cons_succ])
  go_cut [27] (fun v27 wc => ∃ (kq : Nat) (x27_2 : Bool), v27 = .bool x27_2 ∧ Aside0 (depotlaw21_alike.j0 kq x27_2 a0_0 l0_1 l0_2 a1_0 l1_1 l1_2 = some r) ∧ Aside0 (kq ≤ k) ∧ Aside0 (wc.heap[gb221]? = some (.cells #[.string a0_0, (.slice A0_1 l0_1.length c0_1), (.slice A0_2 l0_2.length c0_2)] 33 (0, 0))) ∧ Aside0 (wc.heap[gb222]? = some (.cells #[.string a1_0, (.slice A1_1 l1_1.length c1_1), (.slice A1_2 l1_2.length c1_2)] 33 (0, 0))) ∧ Aside0 (Below w.heap.size w wc))
  case first =>
    have H := HC3.out
    clear HC3
    by_cases c6 : a0_0.toList = a1_0.toList
    · rw [if_pos c6] at H
      have c6b0 : (a0_0.toList == a1_0.toList) = true := beq_iff_eq.mpr c6
      have c6b1 : (a0_0.toList != a1_0.toList) = false := bne_eq_false_iff_eq.mpr c6
      clear c6
      (first | rw [c6b0] | (simp only [i64_w, i32_w]; rw [c6b0]) | skip)
      replace H := Option.bind_eq_some_iff.mp H
      obtain ⟨t223, A70, H⟩ := H
      replace H : (if t223 = true then (depotlaw21_alike.j0 k ((l0_2.length : Int) != (l1_2.length : Int)) a0_0 l0_1 l0_2 a1_0 l1_1 l1_2) else (depotlaw21_alike.j0 k true a0_0 l0_1 l0_2 a1_0 l1_1 l1_2)) = some r := H
      have A7 := Aside0.mk A70
      clear A70
      by_cases c8 : t223 = true
      · subst c8
        have H1 : (depotlaw21_alike.j0 k ((l0_2.length : Int) != (l1_2.length : Int)) a0_0 l0_1 l0_2 a1_0 l1_1 l1_2) = some r := by rw [if_pos rfl] at H; exact H
        clear H
        have H := H1
        clear H1
        have H' := Aside0.mk H
        clear H
        have hnb9 := NB221_222.out
        have hnc9 := NB222_221.out
        have hcz10_0 : w5.cell? ⟨gb221, 0, none⟩ = some (.string a0_0) := (blk_cell BK221.out 0).trans rfl
        have hcz10_1 : w5.cell? ⟨gb221, 1, none⟩ = some (.slice A0_1 l0_1.length c0_1) := (blk_cell BK221.out 1).trans rfl
        have hcz10_2 : w5.cell? ⟨gb221, 2, none⟩ = some (.slice A0_2 l0_2.length c0_2) := (blk_cell BK221.out 2).trans rfl
        have hfz10_0 := blk_frozen BK221.out 0
        have hfz10_1 := blk_frozen BK221.out 1
        have hfz10_2 := blk_frozen BK221.out 2
        have hcz11_0 : w5.cell? ⟨gb222, 0, none⟩ = some (.string a1_0) := (blk_cell BK222.out 0).trans rfl
        have hcz11_1 : w5.cell? ⟨gb222, 1, none⟩ = some (.slice A1_1 l1_1.length c1_1) := (blk_cell BK222.out 1).trans rfl
        have hcz11_2 : w5.cell? ⟨gb222, 2, none⟩ = some (.slice A1_2 l1_2.length c1_2) := (blk_cell BK222.out 2).trans rfl
        have hfz11_0 := blk_frozen BK222.out 0
        have hfz11_1 := blk_frozen BK222.out 1
        have hfz11_2 := blk_frozen BK222.out 2
        go_wp2_with (first | (go_at_call 27; (with_reducible refine (depotlaw21_texts.calls k _ _ l0_1 _ _ l1_1 true _ ?side1 ?side2 ?side3 ?side4 A7.out).mono ?_); (case side1 => repeat (first | exact (Kd.C_below HR0_1.out HB.out) | (with_reducible refine Kd.C_alloc ?_ _) | (with_reducible refine Kd.C_drewN ?_ _) | (with_reducible refine Kd.C_drew ?_))); (case side2 => exact HC0_1.out); (case side3 => repeat (first | exact (Kd.C_below HR1_1.out HB.out) | (with_reducible refine Kd.C_alloc ?_ _) | (with_reducible refine Kd.C_drewN ?_ _) | (with_reducible refine Kd.C_drew ?_))); (case side4 => exact HC1_1.out); rintro e w' ⟨rfl, ⟨nd, rfl⟩⟩; (try first | exact ⟨rfl, _, World.drewN_drewN _ _ _⟩ | exact ⟨rfl, _, Eq.trans (World.drewN_drewN _ _ _) (congrArg (World.drewN _) (Nat.add_assoc _ _ _))⟩)))
        repeat (go_quiet (first | (go_at_call 27; (with_reducible refine (depotlaw21_texts.calls k _ _ l0_1 _ _ l1_1 true _ ?side1 ?side2 ?side3 ?side4 A7.out).mono ?_); (case side1 => repeat (first | exact (Kd.C_below HR0_1.out HB.out) | (with_reducible refine Kd.C_alloc ?_ _) | (with_reducible refine Kd.C_drewN ?_ _) | (with_reducible refine Kd.C_drew ?_))); (case side2 => exact HC0_1.out); (case side3 => repeat (first | exact (Kd.C_below HR1_1.out HB.out) | (with_reducible refine Kd.C_alloc ?_ _) | (with_reducible refine Kd.C_drewN ?_ _) | (with_reducible refine Kd.C_drew ?_))); (case side4 => exact HC1_1.out); rintro e w' ⟨rfl, ⟨nd, rfl⟩⟩; (try first | exact ⟨rfl, _, World.drewN_drewN _ _ _⟩ | exact ⟨rfl, _, Eq.trans (World.drewN_drewN _ _ _) (congrArg (World.drewN _) (Nat.add_assoc _ _ _))⟩))); try go_wp2_with (first | (go_at_call 27; (with_reducible refine (depotlaw21_texts.calls k _ _ l0_1 _ _ l1_1 true _ ?side1 ?side2 ?side3 ?side4 A7.out).mono ?_); (case side1 => repeat (first | exact (Kd.C_below HR0_1.out HB.out) | (with_reducible refine Kd.C_alloc ?_ _) | (with_reducible refine Kd.C_drewN ?_ _) | (with_reducible refine Kd.C_drew ?_))); (case side2 => exact HC0_1.out); (case side3 => repeat (first | exact (Kd.C_below HR1_1.out HB.out) | (with_reducible refine Kd.C_alloc ?_ _) | (with_reducible refine Kd.C_drewN ?_ _) | (with_reducible refine Kd.C_drew ?_))); (case side4 => exact HC1_1.out); rintro e w' ⟨rfl, ⟨nd, rfl⟩⟩; (try first | exact ⟨rfl, _, World.drewN_drewN _ _ _⟩ | exact ⟨rfl, _, Eq.trans (World.drewN_drewN _ _ _) (congrArg (World.drewN _) (Nat.add_assoc _ _ _))⟩))))
        go_meet
        case rel => exact ⟨_, (((l0_2.length : Int) != (l1_2.length : Int))), (by first | rfl | (simp; done) | (simp [*]; done)), H', ⟨by first | omega | exact Nat.le_refl _⟩, ⟨by (with_reducible repeat (first | refine blk_drewN ?_ _ | refine blk_drew ?_ | refine blk_alloc ?_ _)); exact BK221.out⟩, ⟨by (with_reducible repeat (first | refine blk_drewN ?_ _ | refine blk_drew ?_ | refine blk_alloc ?_ _)); exact BK222.out⟩, ⟨by repeat (first | (with_reducible first | exact HB.out | apply below_alloc | apply pw_below_drewN | apply below_drew1 | refine below_set ?_ GE221.out | refine below_set ?_ GE222.out) | exact HB.out)⟩⟩
      · replace c8 := Bool.eq_false_iff.mpr c8
        subst c8
        have H1 : (depotlaw21_alike.j0 k true a0_0 l0_1 l0_2 a1_0 l1_1 l1_2) = some r := by rw [if_neg (show ¬ (false = true) by decide)] at H; exact H
        clear H
        have H := H1
        clear H1
        have H' := Aside0.mk H
        clear H
        have hnb12 := NB221_222.out
        have hnc12 := NB222_221.out
        have hcz13_0 : w5.cell? ⟨gb221, 0, none⟩ = some (.string a0_0) := (blk_cell BK221.out 0).trans rfl
        have hcz13_1 : w5.cell? ⟨gb221, 1, none⟩ = some (.slice A0_1 l0_1.length c0_1) := (blk_cell BK221.out 1).trans rfl
        have hcz13_2 : w5.cell? ⟨gb221, 2, none⟩ = some (.slice A0_2 l0_2.length c0_2) := (blk_cell BK221.out 2).trans rfl
        have hfz13_0 := blk_frozen BK221.out 0
        have hfz13_1 := blk_frozen BK221.out 1
        have hfz13_2 := blk_frozen BK221.out 2
        have hcz14_0 : w5.cell? ⟨gb222, 0, none⟩ = some (.string a1_0) := (blk_cell BK222.out 0).trans rfl
        have hcz14_1 : w5.cell? ⟨gb222, 1, none⟩ = some (.slice A1_1 l1_1.length c1_1) := (blk_cell BK222.out 1).trans rfl
        have hcz14_2 : w5.cell? ⟨gb222, 2, none⟩ = some (.slice A1_2 l1_2.length c1_2) := (blk_cell BK222.out 2).trans rfl
        have hfz14_0 := blk_frozen BK222.out 0
        have hfz14_1 := blk_frozen BK222.out 1
        have hfz14_2 := blk_frozen BK222.out 2
        go_wp2_with (first | (go_at_call 27; (with_reducible refine (depotlaw21_texts.calls k _ _ l0_1 _ _ l1_1 false _ ?side1 ?side2 ?side3 ?side4 A7.out).mono ?_); (case side1 => repeat (first | exact (Kd.C_below HR0_1.out HB.out) | (with_reducible refine Kd.C_alloc ?_ _) | (with_reducible refine Kd.C_drewN ?_ _) | (with_reducible refine Kd.C_drew ?_))); (case side2 => exact HC0_1.out); (case side3 => repeat (first | exact (Kd.C_below HR1_1.out HB.out) | (with_reducible refine Kd.C_alloc ?_ _) | (with_reducible refine Kd.C_drewN ?_ _) | (with_reducible refine Kd.C_drew ?_))); (case side4 => exact HC1_1.out); rintro e w' ⟨rfl, ⟨nd, rfl⟩⟩; (try first | exact ⟨rfl, _, World.drewN_drewN _ _ _⟩ | exact ⟨rfl, _, Eq.trans (World.drewN_drewN _ _ _) (congrArg (World.drewN _) (Nat.add_assoc _ _ _))⟩)))
        repeat (go_quiet (first | (go_at_call 27; (with_reducible refine (depotlaw21_texts.calls k _ _ l0_1 _ _ l1_1 false _ ?side1 ?side2 ?side3 ?side4 A7.out).mono ?_); (case side1 => repeat (first | exact (Kd.C_below HR0_1.out HB.out) | (with_reducible refine Kd.C_alloc ?_ _) | (with_reducible refine Kd.C_drewN ?_ _) | (with_reducible refine Kd.C_drew ?_))); (case side2 => exact HC0_1.out); (case side3 => repeat (first | exact (Kd.C_below HR1_1.out HB.out) | (with_reducible refine Kd.C_alloc ?_ _) | (with_reducible refine Kd.C_drewN ?_ _) | (with_reducible refine Kd.C_drew ?_))); (case side4 => exact HC1_1.out); rintro e w' ⟨rfl, ⟨nd, rfl⟩⟩; (try first | exact ⟨rfl, _, World.drewN_drewN _ _ _⟩ | exact ⟨rfl, _, Eq.trans (World.drewN_drewN _ _ _) (congrArg (World.drewN _) (Nat.add_assoc _ _ _))⟩))); try go_wp2_with (first | (go_at_call 27; (with_reducible refine (depotlaw21_texts.calls k _ _ l0_1 _ _ l1_1 false _ ?side1 ?side2 ?side3 ?side4 A7.out).mono ?_); (case side1 => repeat (first | exact (Kd.C_below HR0_1.out HB.out) | (with_reducible refine Kd.C_alloc ?_ _) | (with_reducible refine Kd.C_drewN ?_ _) | (with_reducible refine Kd.C_drew ?_))); (case side2 => exact HC0_1.out); (case side3 => repeat (first | exact (Kd.C_below HR1_1.out HB.out) | (with_reducible refine Kd.C_alloc ?_ _) | (with_reducible refine Kd.C_drewN ?_ _) | (with_reducible refine Kd.C_drew ?_))); (case side4 => exact HC1_1.out); rintro e w' ⟨rfl, ⟨nd, rfl⟩⟩; (try first | exact ⟨rfl, _, World.drewN_drewN _ _ _⟩ | exact ⟨rfl, _, Eq.trans (World.drewN_drewN _ _ _) (congrArg (World.drewN _) (Nat.add_assoc _ _ _))⟩))))
        go_meet
        case rel => exact ⟨_, (true), (by first | rfl | (simp; done) | (simp [*]; done)), H', ⟨by first | omega | exact Nat.le_refl _⟩, ⟨by (with_reducible repeat (first | refine blk_drewN ?_ _ | refine blk_drew ?_ | refine blk_alloc ?_ _)); exact BK221.out⟩, ⟨by (with_reducible repeat (first | refine blk_drewN ?_ _ | refine blk_drew ?_ | refine blk_alloc ?_ _)); exact BK222.out⟩, ⟨by repeat (first | (with_reducible first | exact HB.out | apply below_alloc | apply pw_below_drewN | apply below_drew1 | refine below_set ?_ GE221.out | refine below_set ?_ GE222.out) | exact HB.out)⟩⟩
    · rw [if_neg c6] at H
      have c6b0 : (a0_0.toList == a1_0.toList) = false := beq_eq_false_iff_ne.mpr c6
      have c6b1 : (a0_0.toList != a1_0.toList) = true := bne_iff_ne.mpr c6
      (first | rw [c6b0] | (simp only [i64_w, i32_w]; rw [c6b0]) | skip)
      have H' := Aside0.mk H
      clear H
      have hnb15 := NB221_222.out
      have hnc15 := NB222_221.out
      have hcz16_0 : w5.cell? ⟨gb221, 0, none⟩ = some (.string a0_0) := (blk_cell BK221.out 0).trans rfl
      have hcz16_1 : w5.cell? ⟨gb221, 1, none⟩ = some (.slice A0_1 l0_1.length c0_1) := (blk_cell BK221.out 1).trans rfl
      have hcz16_2 : w5.cell? ⟨gb221, 2, none⟩ = some (.slice A0_2 l0_2.length c0_2) := (blk_cell BK221.out 2).trans rfl
      have hfz16_0 := blk_frozen BK221.out 0
      have hfz16_1 := blk_frozen BK221.out 1
      have hfz16_2 := blk_frozen BK221.out 2
      have hcz17_0 : w5.cell? ⟨gb222, 0, none⟩ = some (.string a1_0) := (blk_cell BK222.out 0).trans rfl
      have hcz17_1 : w5.cell? ⟨gb222, 1, none⟩ = some (.slice A1_1 l1_1.length c1_1) := (blk_cell BK222.out 1).trans rfl
      have hcz17_2 : w5.cell? ⟨gb222, 2, none⟩ = some (.slice A1_2 l1_2.length c1_2) := (blk_cell BK222.out 2).trans rfl
      have hfz17_0 := blk_frozen BK222.out 0
      have hfz17_1 := blk_frozen BK222.out 1
      have hfz17_2 := blk_frozen BK222.out 2
      go_wp2
      repeat (go_quiet (fail); try go_wp2)
      go_meet
      case rel => exact ⟨_, (true), (by first | rfl | (simp; done) | (simp [*]; done)), H', ⟨by first | omega | exact Nat.le_refl _⟩, ⟨by (with_reducible repeat (first | refine blk_drewN ?_ _ | refine blk_drew ?_ | refine blk_alloc ?_ _)); exact BK221.out⟩, ⟨by (with_reducible repeat (first | refine blk_drewN ?_ _ | refine blk_drew ?_ | refine blk_alloc ?_ _)); exact BK222.out⟩, ⟨by repeat (first | (with_reducible first | exact HB.out | apply below_alloc | apply pw_below_drewN | apply below_drew1 | refine below_set ?_ GE221.out | refine below_set ?_ GE222.out) | exact HB.out)⟩⟩
  case rest =>
    clear HC3
    try clear c1
    try clear p2
    try clear c6
    try clear c6b0
    try clear c6b1
    try clear c8
    try clear c9
    try clear c11
    try clear c12
    try clear c15
    try clear hcz10_0
    try clear hcz10_1
    try clear hcz10_2
    try clear hcz11_0
    try clear hcz11_1
    try clear hcz11_2
    try clear hcz13_0
    try clear hcz13_1
    try clear hcz13_2
    try clear hcz14_0
    try clear hcz14_1
    try clear hcz14_2
    try clear hcz16_0
    try clear hcz16_1
    try clear hcz16_2
    try clear hcz17_0
    try clear hcz17_1
    try clear hcz17_2
    try clear hfz10_0
    try clear hfz10_1
    try clear hfz10_2
    try clear hfz11_0
    try clear hfz11_1
    try clear hfz11_2
    try clear hfz13_0
    try clear hfz13_1
    try clear hfz13_2
    try clear hfz14_0
    try clear hfz14_1
    try clear hfz14_2
    try clear hfz16_0
    try clear hfz16_1
    try clear hfz16_2
    try clear hfz17_0
    try clear hfz17_1
    try clear hfz17_2
    obtain ⟨kq, x27_2, rfl, HA, HJ2, BK221, BK222, HB⟩ := hcut
    cases kq with
    | zero => exact absurd HA.out (by simp [depotlaw21_alike.j0])
    | succ kj2 =>
      have H := HA.out
      clear HA
      simp only [depotlaw21_alike.j0] at H
      by_cases c18 : x27_2 = true
      · subst c18
        have H1 : (some false) = some r := by rw [if_pos rfl] at H; exact H
        clear H
        have H := H1
        clear H1
        obtain rfl := Option.some.inj H
        go_wp2
        repeat (go_quiet (fail); try go_wp2)
        go_ret
        exact ⟨by first | rfl | (simp [errW_none, errW_some] <;> rfl) | (simp [*, errW_none, errW_some] <;> rfl), by repeat (first | (with_reducible first | exact HB.out | apply below_alloc | apply pw_below_drewN | apply below_drew1 | refine below_set ?_ GE221.out | refine below_set ?_ GE222.out) | exact HB.out)⟩
      · replace c18 := Bool.eq_false_iff.mpr c18
        subst c18
        have H1 : (depotlaw21_alike.l0 kj2 (l0_2.length : Int) 0 a0_0 l0_1 l0_2 a1_0 l1_1 l1_2) = some r := by rw [if_neg (show ¬ (false = true) by decide)] at H; exact H
        clear H
        have H := H1
        clear H1
        have H' := Aside0.mk H
        clear H
        have hnb19 := NB221_222.out
        have hnc19 := NB222_221.out
        have hcz20_0 : wc.cell? ⟨gb221, 0, none⟩ = some (.string a0_0) := (blk_cell BK221.out 0).trans rfl
        have hcz20_1 : wc.cell? ⟨gb221, 1, none⟩ = some (.slice A0_1 l0_1.length c0_1) := (blk_cell BK221.out 1).trans rfl
        have hcz20_2 : wc.cell? ⟨gb221, 2, none⟩ = some (.slice A0_2 l0_2.length c0_2) := (blk_cell BK221.out 2).trans rfl
        have hfz20_0 := blk_frozen BK221.out 0
        have hfz20_1 := blk_frozen BK221.out 1
        have hfz20_2 := blk_frozen BK221.out 2
        go_wp2
        repeat (go_quiet (fail); try go_wp2)
        go_loopg [31] kj2 (fun kq v31 w' => ∃ (x31_2 : Int), v31 = .int .i64 x31_2 ∧ Aside0 (depotlaw21_alike.l0 kq (l0_2.length : Int) x31_2 a0_0 l0_1 l0_2 a1_0 l1_1 l1_2 = some r) ∧ Aside0 (kq ≤ kj2) ∧ Aside0 (w'.heap[gb221]? = some (.cells #[.string a0_0, (.slice A0_1 l0_1.length c0_1), (.slice A0_2 l0_2.length c0_2)] 33 (0, 0))) ∧ Aside0 (w'.heap[gb222]? = some (.cells #[.string a1_0, (.slice A1_1 l1_1.length c1_1), (.slice A1_2 l1_2.length c1_2)] 33 (0, 0))) ∧ Aside0 (Below w.heap.size w w'))
        case atStart => exact ⟨(0), (by first | rfl | (simp; done) | (simp [*]; done)), H', ⟨Nat.le_refl _⟩, ⟨by (with_reducible repeat (first | refine blk_drewN ?_ _ | refine blk_drew ?_ | refine blk_alloc ?_ _)); exact BK221.out⟩, ⟨by (with_reducible repeat (first | refine blk_drewN ?_ _ | refine blk_drew ?_ | refine blk_alloc ?_ _)); exact BK222.out⟩, ⟨by repeat (first | (with_reducible first | exact HB.out | apply below_alloc | apply pw_below_drewN | apply below_drew1 | refine below_set ?_ GE221.out | refine below_set ?_ GE222.out) | exact HB.out)⟩⟩
        case round =>
          clear H'
          try clear c1
          try clear p2
          try clear c6
          try clear c6b0
          try clear c6b1
          try clear c8
          try clear c9
          try clear c11
          try clear c12
          try clear c15
          try clear c18
          try clear c19
          try clear hcz10_0
          try clear hcz10_1
          try clear hcz10_2
          try clear hcz11_0
          try clear hcz11_1
          try clear hcz11_2
          try clear hcz13_0
          try clear hcz13_1
          try clear hcz13_2
          try clear hcz14_0
          try clear hcz14_1
          try clear hcz14_2
          try clear hcz16_0
          try clear hcz16_1
          try clear hcz16_2
          try clear hcz17_0
          try clear hcz17_1
          try clear hcz17_2
          try clear hcz20_0
          try clear hcz20_1
          try clear hcz20_2
          try clear hfz10_0
          try clear hfz10_1
          try clear hfz10_2
          try clear hfz11_0
          try clear hfz11_1
          try clear hfz11_2
          try clear hfz13_0
          try clear hfz13_1
          try clear hfz13_2
          try clear hfz14_0
          try clear hfz14_1
          try clear hfz14_2
          try clear hfz16_0
          try clear hfz16_1
          try clear hfz16_2
          try clear hfz17_0
          try clear hfz17_1
          try clear hfz17_2
          try clear hfz20_0
          try clear hfz20_1
          try clear hfz20_2
          try clear p2
          obtain ⟨x31_2, rfl, HA, HK2, BK221, BK222, HB⟩ := hrel
          cases gk with
          | zero => exact absurd HA.out (by simp [depotlaw21_alike.l0])
          | succ k2 =>
            have H := HA.out
            clear HA
            simp only [depotlaw21_alike.l0] at H
            by_cases c21 : x31_2 < (l0_2.length : Int)
            · rw [if_pos c21] at H
              have c21b0 : decide (x31_2 < (l0_2.length : Int)) = true := decide_eq_true c21
              clear c21
              by_cases c22 : 0 ≤ x31_2
              · rw [if_pos c22] at H
                have c22b0 : decide (0 ≤ x31_2) = true := decide_eq_true c22
                clear c22
                by_cases c23 : x31_2 < (l0_2.length : Int)
                · rw [if_pos c23] at H
                  have c23b0 : decide (x31_2 < (l0_2.length : Int)) = true := decide_eq_true c23
                  clear c23
                  by_cases c24 : x31_2 < (l1_2.length : Int)
                  · rw [if_pos c24] at H
                    have c24b0 : decide (x31_2 < (l1_2.length : Int)) = true := decide_eq_true c24
                    clear c24
                    by_cases c25 : ((rd_T66 l0_2 x31_2).f0).toList = ((rd_T66 l1_2 x31_2).f0).toList
                    · rw [if_pos c25] at H
                      have c25b0 : (((rd_T66 l0_2 x31_2).f0).toList == ((rd_T66 l1_2 x31_2).f0).toList) = true := beq_iff_eq.mpr c25
                      have c25b1 : (((rd_T66 l0_2 x31_2).f0).toList != ((rd_T66 l1_2 x31_2).f0).toList) = false := bne_eq_false_iff_eq.mpr c25
                      clear c25
                      replace H := Option.bind_eq_some_iff.mp H
                      obtain ⟨t228, A260, H⟩ := H
                      replace H : (if t228 = true then (depotlaw21_alike.l0 k2 (l0_2.length : Int) (wrap64 (x31_2 + 1)) a0_0 l0_1 l0_2 a1_0 l1_1 l1_2) else (some false)) = some r := H
                      have A26 := Aside0.mk A260
                      clear A260
                      by_cases c27 : t228 = true
                      · subst c27
                        have H1 : (depotlaw21_alike.l0 k2 (l0_2.length : Int) (wrap64 (x31_2 + 1)) a0_0 l0_1 l0_2 a1_0 l1_1 l1_2) = some r := by rw [if_pos rfl] at H; exact H
                        clear H
                        have H := H1
                        clear H1
                        have H' := Aside0.mk H
                        clear H
                        have hnb28 := NB221_222.out
                        have hnc28 := NB222_221.out
                        have hcz29_0 : wr.cell? ⟨gb221, 0, none⟩ = some (.string a0_0) := (blk_cell BK221.out 0).trans rfl
                        have hcz29_1 : wr.cell? ⟨gb221, 1, none⟩ = some (.slice A0_1 l0_1.length c0_1) := (blk_cell BK221.out 1).trans rfl
                        have hcz29_2 : wr.cell? ⟨gb221, 2, none⟩ = some (.slice A0_2 l0_2.length c0_2) := (blk_cell BK221.out 2).trans rfl
                        have hfz29_0 := blk_frozen BK221.out 0
                        have hfz29_1 := blk_frozen BK221.out 1
                        have hfz29_2 := blk_frozen BK221.out 2
                        have p224 : 0 ≤ (x31_2 : Int) := of_decide_eq_true (by first | (with_reducible assumption) | assumption)
                        have q224 : x31_2 < (l0_2.length : Int) := of_decide_eq_true (by first | (with_reducible assumption) | assumption)
                        obtain ⟨ad224, A224_1, c224_1, e224, hx224_0, hx224_1, hl224_1, hi224_1⟩ := at_T66 HR0_2.out x31_2 p224 q224
                        cases e224
                        replace hx224_0 := (HB.out.cell (World.block_lt_of_cell? w _ hx224_0)).trans hx224_0
                        replace hx224_1 := (HB.out.cell (World.block_lt_of_cell? w _ hx224_1)).trans hx224_1
                        have HR224_1 := Aside0.mk hi224_1
                        have HC224_1 := Aside0.mk hl224_1
                        clear hi224_1 hl224_1
                        replace p224 := eq_true p224
                        replace q224 := eq_true q224
                        have hcz30_0 : wr.cell? ⟨gb222, 0, none⟩ = some (.string a1_0) := (blk_cell BK222.out 0).trans rfl
                        have hcz30_1 : wr.cell? ⟨gb222, 1, none⟩ = some (.slice A1_1 l1_1.length c1_1) := (blk_cell BK222.out 1).trans rfl
                        have hcz30_2 : wr.cell? ⟨gb222, 2, none⟩ = some (.slice A1_2 l1_2.length c1_2) := (blk_cell BK222.out 2).trans rfl
                        have hfz30_0 := blk_frozen BK222.out 0
                        have hfz30_1 := blk_frozen BK222.out 1
                        have hfz30_2 := blk_frozen BK222.out 2
                        have p225 : 0 ≤ (x31_2 : Int) := of_decide_eq_true (by first | (with_reducible assumption) | assumption)
                        have q225 : x31_2 < (l1_2.length : Int) := of_decide_eq_true (by first | (with_reducible assumption) | assumption)
                        obtain ⟨ad225, A225_1, c225_1, e225, hx225_0, hx225_1, hl225_1, hi225_1⟩ := at_T66 HR1_2.out x31_2 p225 q225
                        cases e225
                        replace hx225_0 := (HB.out.cell (World.block_lt_of_cell? w _ hx225_0)).trans hx225_0
                        replace hx225_1 := (HB.out.cell (World.block_lt_of_cell? w _ hx225_1)).trans hx225_1
                        have HR225_1 := Aside0.mk hi225_1
                        have HC225_1 := Aside0.mk hl225_1
                        clear hi225_1 hl225_1
                        replace p225 := eq_true p225
                        replace q225 := eq_true q225
                        have p226 : 0 ≤ (x31_2 : Int) := of_decide_eq_true (by first | (with_reducible assumption) | assumption)
                        have q226 : x31_2 < (l0_2.length : Int) := of_decide_eq_true (by first | (with_reducible assumption) | assumption)
                        obtain ⟨ad226, A226_1, c226_1, e226, hx226_0, hx226_1, hl226_1, hi226_1⟩ := at_T66 HR0_2.out x31_2 p226 q226
                        obtain rfl : ad224 = ad226 := (by injection e226)
                        replace hx226_0 := (HB.out.cell (World.block_lt_of_cell? w _ hx226_0)).trans hx226_0
                        replace hx226_1 := (HB.out.cell (World.block_lt_of_cell? w _ hx226_1)).trans hx226_1
                        have HR226_1 := Aside0.mk hi226_1
                        have HC226_1 := Aside0.mk hl226_1
                        clear hi226_1 hl226_1
                        replace p226 := eq_true p226
                        replace q226 := eq_true q226
                        have ea_ := Option.some.inj (hx224_1.symm.trans hx226_1)
                        injection ea_ with ea_ en_ ec_
                        subst ea_
                        subst ec_
                        clear en_
                        have p227 : 0 ≤ (x31_2 : Int) := of_decide_eq_true (by first | (with_reducible assumption) | assumption)
                        have q227 : x31_2 < (l1_2.length : Int) := of_decide_eq_true (by first | (with_reducible assumption) | assumption)
                        obtain ⟨ad227, A227_1, c227_1, e227, hx227_0, hx227_1, hl227_1, hi227_1⟩ := at_T66 HR1_2.out x31_2 p227 q227
                        obtain rfl : ad225 = ad227 := (by injection e227)
                        replace hx227_0 := (HB.out.cell (World.block_lt_of_cell? w _ hx227_0)).trans hx227_0
                        replace hx227_1 := (HB.out.cell (World.block_lt_of_cell? w _ hx227_1)).trans hx227_1
                        have HR227_1 := Aside0.mk hi227_1
                        have HC227_1 := Aside0.mk hl227_1
                        clear hi227_1 hl227_1
                        replace p227 := eq_true p227
                        replace q227 := eq_true q227
                        have ea_ := Option.some.inj (hx225_1.symm.trans hx227_1)
                        injection ea_ with ea_ en_ ec_
                        subst ea_
                        subst ec_
                        clear en_
                        go_wp2_with (first | (go_at_call 27; (with_reducible refine (depotlaw21_texts.calls k2 _ _ ((rd_T66 l0_2 x31_2).f1) _ _ ((rd_T66 l1_2 x31_2).f1) true _ ?side1 ?side2 ?side3 ?side4 A26.out).mono ?_); (case side1 => repeat (first | exact (Kd.C_below HR226_1.out HB.out) | (with_reducible refine Kd.C_alloc ?_ _) | (with_reducible refine Kd.C_drewN ?_ _) | (with_reducible refine Kd.C_drew ?_))); (case side2 => exact HC226_1.out); (case side3 => repeat (first | exact (Kd.C_below HR227_1.out HB.out) | (with_reducible refine Kd.C_alloc ?_ _) | (with_reducible refine Kd.C_drewN ?_ _) | (with_reducible refine Kd.C_drew ?_))); (case side4 => exact HC227_1.out); rintro e w' ⟨rfl, ⟨nd, rfl⟩⟩; (try first | exact ⟨rfl, _, World.drewN_drewN _ _ _⟩ | exact ⟨rfl, _, Eq.trans (World.drewN_drewN _ _ _) (congrArg (World.drewN _) (Nat.add_assoc _ _ _))⟩)))
                        repeat (go_quiet (first | (go_at_call 27; (with_reducible refine (depotlaw21_texts.calls k2 _ _ ((rd_T66 l0_2 x31_2).f1) _ _ ((rd_T66 l1_2 x31_2).f1) true _ ?side1 ?side2 ?side3 ?side4 A26.out).mono ?_); (case side1 => repeat (first | exact (Kd.C_below HR226_1.out HB.out) | (with_reducible refine Kd.C_alloc ?_ _) | (with_reducible refine Kd.C_drewN ?_ _) | (with_reducible refine Kd.C_drew ?_))); (case side2 => exact HC226_1.out); (case side3 => repeat (first | exact (Kd.C_below HR227_1.out HB.out) | (with_reducible refine Kd.C_alloc ?_ _) | (with_reducible refine Kd.C_drewN ?_ _) | (with_reducible refine Kd.C_drew ?_))); (case side4 => exact HC227_1.out); rintro e w' ⟨rfl, ⟨nd, rfl⟩⟩; (try first | exact ⟨rfl, _, World.drewN_drewN _ _ _⟩ | exact ⟨rfl, _, Eq.trans (World.drewN_drewN _ _ _) (congrArg (World.drewN _) (Nat.add_assoc _ _ _))⟩))); try go_wp2_with (first | (go_at_call 27; (with_reducible refine (depotlaw21_texts.calls k2 _ _ ((rd_T66 l0_2 x31_2).f1) _ _ ((rd_T66 l1_2 x31_2).f1) true _ ?side1 ?side2 ?side3 ?side4 A26.out).mono ?_); (case side1 => repeat (first | exact (Kd.C_below HR226_1.out HB.out) | (with_reducible refine Kd.C_alloc ?_ _) | (with_reducible refine Kd.C_drewN ?_ _) | (with_reducible refine Kd.C_drew ?_))); (case side2 => exact HC226_1.out); (case side3 => repeat (first | exact (Kd.C_below HR227_1.out HB.out) | (with_reducible refine Kd.C_alloc ?_ _) | (with_reducible refine Kd.C_drewN ?_ _) | (with_reducible refine Kd.C_drew ?_))); (case side4 => exact HC227_1.out); rintro e w' ⟨rfl, ⟨nd, rfl⟩⟩; (try first | exact ⟨rfl, _, World.drewN_drewN _ _ _⟩ | exact ⟨rfl, _, Eq.trans (World.drewN_drewN _ _ _) (congrArg (World.drewN _) (Nat.add_assoc _ _ _))⟩))))
                        go_roundg k2
                        case measure => have := HJ2.out; have := HK2.out; omega
                        case rel => exact ⟨(wrap64 (x31_2 + 1)), (by first | rfl | (simp; done) | (simp [*]; done)), H', ⟨by have := HJ2.out; have := HK2.out; omega⟩, ⟨by (with_reducible repeat (first | refine blk_drewN ?_ _ | refine blk_drew ?_ | refine blk_alloc ?_ _)); exact BK221.out⟩, ⟨by (with_reducible repeat (first | refine blk_drewN ?_ _ | refine blk_drew ?_ | refine blk_alloc ?_ _)); exact BK222.out⟩, ⟨by repeat (first | (with_reducible first | exact HB.out | apply below_alloc | apply pw_below_drewN | apply below_drew1 | refine below_set ?_ GE221.out | refine below_set ?_ GE222.out) | exact HB.out)⟩⟩
                      · replace c27 := Bool.eq_false_iff.mpr c27
                        subst c27
                        have H1 : (some false) = some r := by rw [if_neg (show ¬ (false = true) by decide)] at H; exact H
                        clear H
                        have H := H1
                        clear H1
                        obtain rfl := Option.some.inj H
                        have hnb31 := NB221_222.out
                        have hnc31 := NB222_221.out
                        have hcz32_0 : wr.cell? ⟨gb221, 0, none⟩ = some (.string a0_0) := (blk_cell BK221.out 0).trans rfl
                        have hcz32_1 : wr.cell? ⟨gb221, 1, none⟩ = some (.slice A0_1 l0_1.length c0_1) := (blk_cell BK221.out 1).trans rfl
                        have hcz32_2 : wr.cell? ⟨gb221, 2, none⟩ = some (.slice A0_2 l0_2.length c0_2) := (blk_cell BK221.out 2).trans rfl
                        have hfz32_0 := blk_frozen BK221.out 0
                        have hfz32_1 := blk_frozen BK221.out 1
                        have hfz32_2 := blk_frozen BK221.out 2
                        have p224 : 0 ≤ (x31_2 : Int) := of_decide_eq_true (by first | (with_reducible assumption) | assumption)
                        have q224 : x31_2 < (l0_2.length : Int) := of_decide_eq_true (by first | (with_reducible assumption) | assumption)
                        obtain ⟨ad224, A224_1, c224_1, e224, hx224_0, hx224_1, hl224_1, hi224_1⟩ := at_T66 HR0_2.out x31_2 p224 q224
                        cases e224
                        replace hx224_0 := (HB.out.cell (World.block_lt_of_cell? w _ hx224_0)).trans hx224_0
                        replace hx224_1 := (HB.out.cell (World.block_lt_of_cell? w _ hx224_1)).trans hx224_1
                        have HR224_1 := Aside0.mk hi224_1
                        have HC224_1 := Aside0.mk hl224_1
                        clear hi224_1 hl224_1
                        replace p224 := eq_true p224
                        replace q224 := eq_true q224
                        have hcz33_0 : wr.cell? ⟨gb222, 0, none⟩ = some (.string a1_0) := (blk_cell BK222.out 0).trans rfl
                        have hcz33_1 : wr.cell? ⟨gb222, 1, none⟩ = some (.slice A1_1 l1_1.length c1_1) := (blk_cell BK222.out 1).trans rfl
                        have hcz33_2 : wr.cell? ⟨gb222, 2, none⟩ = some (.slice A1_2 l1_2.length c1_2) := (blk_cell BK222.out 2).trans rfl
                        have hfz33_0 := blk_frozen BK222.out 0
                        have hfz33_1 := blk_frozen BK222.out 1
                        have hfz33_2 := blk_frozen BK222.out 2
                        have p225 : 0 ≤ (x31_2 : Int) := of_decide_eq_true (by first | (with_reducible assumption) | assumption)
                        have q225 : x31_2 < (l1_2.length : Int) := of_decide_eq_true (by first | (with_reducible assumption) | assumption)
                        obtain ⟨ad225, A225_1, c225_1, e225, hx225_0, hx225_1, hl225_1, hi225_1⟩ := at_T66 HR1_2.out x31_2 p225 q225
                        cases e225
                        replace hx225_0 := (HB.out.cell (World.block_lt_of_cell? w _ hx225_0)).trans hx225_0
                        replace hx225_1 := (HB.out.cell (World.block_lt_of_cell? w _ hx225_1)).trans hx225_1
                        have HR225_1 := Aside0.mk hi225_1
                        have HC225_1 := Aside0.mk hl225_1
                        clear hi225_1 hl225_1
                        replace p225 := eq_true p225
                        replace q225 := eq_true q225
                        have p226 : 0 ≤ (x31_2 : Int) := of_decide_eq_true (by first | (with_reducible assumption) | assumption)
                        have q226 : x31_2 < (l0_2.length : Int) := of_decide_eq_true (by first | (with_reducible assumption) | assumption)
                        obtain ⟨ad226, A226_1, c226_1, e226, hx226_0, hx226_1, hl226_1, hi226_1⟩ := at_T66 HR0_2.out x31_2 p226 q226
                        obtain rfl : ad224 = ad226 := (by injection e226)
                        replace hx226_0 := (HB.out.cell (World.block_lt_of_cell? w _ hx226_0)).trans hx226_0
                        replace hx226_1 := (HB.out.cell (World.block_lt_of_cell? w _ hx226_1)).trans hx226_1
                        have HR226_1 := Aside0.mk hi226_1
                        have HC226_1 := Aside0.mk hl226_1
                        clear hi226_1 hl226_1
                        replace p226 := eq_true p226
                        replace q226 := eq_true q226
                        have ea_ := Option.some.inj (hx224_1.symm.trans hx226_1)
                        injection ea_ with ea_ en_ ec_
                        subst ea_
                        subst ec_
                        clear en_
                        have p227 : 0 ≤ (x31_2 : Int) := of_decide_eq_true (by first | (with_reducible assumption) | assumption)
                        have q227 : x31_2 < (l1_2.length : Int) := of_decide_eq_true (by first | (with_reducible assumption) | assumption)
                        obtain ⟨ad227, A227_1, c227_1, e227, hx227_0, hx227_1, hl227_1, hi227_1⟩ := at_T66 HR1_2.out x31_2 p227 q227
                        obtain rfl : ad225 = ad227 := (by injection e227)
                        replace hx227_0 := (HB.out.cell (World.block_lt_of_cell? w _ hx227_0)).trans hx227_0
                        replace hx227_1 := (HB.out.cell (World.block_lt_of_cell? w _ hx227_1)).trans hx227_1
                        have HR227_1 := Aside0.mk hi227_1
                        have HC227_1 := Aside0.mk hl227_1
                        clear hi227_1 hl227_1
                        replace p227 := eq_true p227
                        replace q227 := eq_true q227
                        have ea_ := Option.some.inj (hx225_1.symm.trans hx227_1)
                        injection ea_ with ea_ en_ ec_
                        subst ea_
                        subst ec_
                        clear en_
                        go_wp2_with (first | (go_at_call 27; (with_reducible refine (depotlaw21_texts.calls k2 _ _ ((rd_T66 l0_2 x31_2).f1) _ _ ((rd_T66 l1_2 x31_2).f1) false _ ?side1 ?side2 ?side3 ?side4 A26.out).mono ?_); (case side1 => repeat (first | exact (Kd.C_below HR226_1.out HB.out) | (with_reducible refine Kd.C_alloc ?_ _) | (with_reducible refine Kd.C_drewN ?_ _) | (with_reducible refine Kd.C_drew ?_))); (case side2 => exact HC226_1.out); (case side3 => repeat (first | exact (Kd.C_below HR227_1.out HB.out) | (with_reducible refine Kd.C_alloc ?_ _) | (with_reducible refine Kd.C_drewN ?_ _) | (with_reducible refine Kd.C_drew ?_))); (case side4 => exact HC227_1.out); rintro e w' ⟨rfl, ⟨nd, rfl⟩⟩; (try first | exact ⟨rfl, _, World.drewN_drewN _ _ _⟩ | exact ⟨rfl, _, Eq.trans (World.drewN_drewN _ _ _) (congrArg (World.drewN _) (Nat.add_assoc _ _ _))⟩)))
                        repeat (go_quiet (first | (go_at_call 27; (with_reducible refine (depotlaw21_texts.calls k2 _ _ ((rd_T66 l0_2 x31_2).f1) _ _ ((rd_T66 l1_2 x31_2).f1) false _ ?side1 ?side2 ?side3 ?side4 A26.out).mono ?_); (case side1 => repeat (first | exact (Kd.C_below HR226_1.out HB.out) | (with_reducible refine Kd.C_alloc ?_ _) | (with_reducible refine Kd.C_drewN ?_ _) | (with_reducible refine Kd.C_drew ?_))); (case side2 => exact HC226_1.out); (case side3 => repeat (first | exact (Kd.C_below HR227_1.out HB.out) | (with_reducible refine Kd.C_alloc ?_ _) | (with_reducible refine Kd.C_drewN ?_ _) | (with_reducible refine Kd.C_drew ?_))); (case side4 => exact HC227_1.out); rintro e w' ⟨rfl, ⟨nd, rfl⟩⟩; (try first | exact ⟨rfl, _, World.drewN_drewN _ _ _⟩ | exact ⟨rfl, _, Eq.trans (World.drewN_drewN _ _ _) (congrArg (World.drewN _) (Nat.add_assoc _ _ _))⟩))); try go_wp2_with (first | (go_at_call 27; (with_reducible refine (depotlaw21_texts.calls k2 _ _ ((rd_T66 l0_2 x31_2).f1) _ _ ((rd_T66 l1_2 x31_2).f1) false _ ?side1 ?side2 ?side3 ?side4 A26.out).mono ?_); (case side1 => repeat (first | exact (Kd.C_below HR226_1.out HB.out) | (with_reducible refine Kd.C_alloc ?_ _) | (with_reducible refine Kd.C_drewN ?_ _) | (with_reducible refine Kd.C_drew ?_))); (case side2 => exact HC226_1.out); (case side3 => repeat (first | exact (Kd.C_below HR227_1.out HB.out) | (with_reducible refine Kd.C_alloc ?_ _) | (with_reducible refine Kd.C_drewN ?_ _) | (with_reducible refine Kd.C_drew ?_))); (case side4 => exact HC227_1.out); rintro e w' ⟨rfl, ⟨nd, rfl⟩⟩; (try first | exact ⟨rfl, _, World.drewN_drewN _ _ _⟩ | exact ⟨rfl, _, Eq.trans (World.drewN_drewN _ _ _) (congrArg (World.drewN _) (Nat.add_assoc _ _ _))⟩))))
                        go_ret
                        exact ⟨by first | rfl | (simp [errW_none, errW_some] <;> rfl) | (simp [*, errW_none, errW_some] <;> rfl), by repeat (first | (with_reducible first | exact HB.out | apply below_alloc | apply pw_below_drewN | apply below_drew1 | refine below_set ?_ GE221.out | refine below_set ?_ GE222.out) | exact HB.out)⟩
                    · rw [if_neg c25] at H
                      have c25b0 : (((rd_T66 l0_2 x31_2).f0).toList == ((rd_T66 l1_2 x31_2).f0).toList) = false := beq_eq_false_iff_ne.mpr c25
                      have c25b1 : (((rd_T66 l0_2 x31_2).f0).toList != ((rd_T66 l1_2 x31_2).f0).toList) = true := bne_iff_ne.mpr c25
                      obtain rfl := Option.some.inj H
                      have hnb34 := NB221_222.out
                      have hnc34 := NB222_221.out
                      have hcz35_0 : wr.cell? ⟨gb221, 0, none⟩ = some (.string a0_0) := (blk_cell BK221.out 0).trans rfl
                      have hcz35_1 : wr.cell? ⟨gb221, 1, none⟩ = some (.slice A0_1 l0_1.length c0_1) := (blk_cell BK221.out 1).trans rfl
                      have hcz35_2 : wr.cell? ⟨gb221, 2, none⟩ = some (.slice A0_2 l0_2.length c0_2) := (blk_cell BK221.out 2).trans rfl
                      have hfz35_0 := blk_frozen BK221.out 0
                      have hfz35_1 := blk_frozen BK221.out 1
                      have hfz35_2 := blk_frozen BK221.out 2
                      have p224 : 0 ≤ (x31_2 : Int) := of_decide_eq_true (by first | (with_reducible assumption) | assumption)
                      have q224 : x31_2 < (l0_2.length : Int) := of_decide_eq_true (by first | (with_reducible assumption) | assumption)
                      obtain ⟨ad224, A224_1, c224_1, e224, hx224_0, hx224_1, hl224_1, hi224_1⟩ := at_T66 HR0_2.out x31_2 p224 q224
                      cases e224
                      replace hx224_0 := (HB.out.cell (World.block_lt_of_cell? w _ hx224_0)).trans hx224_0
                      replace hx224_1 := (HB.out.cell (World.block_lt_of_cell? w _ hx224_1)).trans hx224_1
                      have HR224_1 := Aside0.mk hi224_1
                      have HC224_1 := Aside0.mk hl224_1
                      clear hi224_1 hl224_1
                      replace p224 := eq_true p224
                      replace q224 := eq_true q224
                      have hcz36_0 : wr.cell? ⟨gb222, 0, none⟩ = some (.string a1_0) := (blk_cell BK222.out 0).trans rfl
                      have hcz36_1 : wr.cell? ⟨gb222, 1, none⟩ = some (.slice A1_1 l1_1.length c1_1) := (blk_cell BK222.out 1).trans rfl
                      have hcz36_2 : wr.cell? ⟨gb222, 2, none⟩ = some (.slice A1_2 l1_2.length c1_2) := (blk_cell BK222.out 2).trans rfl
                      have hfz36_0 := blk_frozen BK222.out 0
                      have hfz36_1 := blk_frozen BK222.out 1
                      have hfz36_2 := blk_frozen BK222.out 2
                      have p225 : 0 ≤ (x31_2 : Int) := of_decide_eq_true (by first | (with_reducible assumption) | assumption)
                      have q225 : x31_2 < (l1_2.length : Int) := of_decide_eq_true (by first | (with_reducible assumption) | assumption)
                      obtain ⟨ad225, A225_1, c225_1, e225, hx225_0, hx225_1, hl225_1, hi225_1⟩ := at_T66 HR1_2.out x31_2 p225 q225
                      cases e225
                      replace hx225_0 := (HB.out.cell (World.block_lt_of_cell? w _ hx225_0)).trans hx225_0
                      replace hx225_1 := (HB.out.cell (World.block_lt_of_cell? w _ hx225_1)).trans hx225_1
                      have HR225_1 := Aside0.mk hi225_1
                      have HC225_1 := Aside0.mk hl225_1
                      clear hi225_1 hl225_1
                      replace p225 := eq_true p225
                      replace q225 := eq_true q225
                      go_wp2
                      repeat (go_quiet (fail); try go_wp2)
                      go_ret
                      exact ⟨by first | rfl | (simp [errW_none, errW_some] <;> rfl) | (simp [*, errW_none, errW_some] <;> rfl), by repeat (first | (with_reducible first | exact HB.out | apply below_alloc | apply pw_below_drewN | apply below_drew1 | refine below_set ?_ GE221.out | refine below_set ?_ GE222.out) | exact HB.out)⟩
                  · rw [if_neg c24] at H
                    exact absurd H (by simp)
                · rw [if_neg c23] at H
                  exact absurd H (by simp)
              · rw [if_neg c22] at H
                exact absurd H (by simp)
            · rw [if_neg c21] at H
              have c21b0 : decide (x31_2 < (l0_2.length : Int)) = false := decide_eq_false c21
              clear c21
              obtain rfl := Option.some.inj H
              go_wp2
              repeat (go_quiet (fail); try go_wp2)
              go_ret
              exact ⟨by first | rfl | (simp [errW_none, errW_some] <;> rfl) | (simp [*, errW_none, errW_some] <;> rfl), by repeat (first | (with_reducible first | exact HB.out | apply below_alloc | apply pw_below_drewN | apply below_drew1 | refine below_set ?_ GE221.out | refine below_set ?_ GE222.out) | exact HB.out)⟩

end Go.Proofs.Ytdkkgeibifpgiaa.Q
