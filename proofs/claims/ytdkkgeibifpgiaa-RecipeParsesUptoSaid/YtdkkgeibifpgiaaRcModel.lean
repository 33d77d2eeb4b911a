/- The recipe's text, read: plain functions on lists of bytes. -/
import Derived.Test.YtdkkgeibifpgiaaBytes
set_option linter.unusedVariables false
set_option linter.unusedSimpArgs false
namespace Go.Proofs.Ytdkkgeibifpgiaa.Rc
open Go.RowKit Go.Proofs.Ytdkkgeibifpgiaa.Bytes

/-- What reading gives: a thing and what is left behind it; or how many bytes were left at the place that can't be. -/
inductive Res (α : Type) where
  | ok (x : α) (rest : List UInt8)
  | bad (left : Nat)
def Res.map {α β : Type} (f : α → β) : Res α → Res β
  | .ok x r => .ok (f x) r
  | .bad l => .bad l
def Res.bind {α β : Type} (r : Res α) (f : α → List UInt8 → Res β) : Res β := match r with
  | .ok x rest => f x rest
  | .bad l => .bad l
/-- A fixed word. -/
def wordL : List UInt8 → List UInt8 → Res Unit
  | [], s => .ok () s
  | _ :: _, [] => .bad 0
  | c :: w, x :: s => if x = c then wordL w s else .bad (s.length + 1)
/-- The byte that stands for y behind a backslash. -/
def esc (y : UInt8) : Option UInt8 := if y = 34 then some 34 else if y = 92 then some 92 else if y = 110 then some 10 else if y = 116 then some 9 else none
/-- What stands behind an opening quote. -/
def strBody : List UInt8 → Res (List UInt8)
  | [] => .bad 0
  | [x] => if x = 34 then .ok [] [] else if x = 10 ∨ x = 9 then .bad 1 else .bad 0
  | x :: y :: s => if x = 34 then .ok [] (y :: s) else if x = 10 ∨ x = 9 then .bad (s.length + 2) else if x = 92 then (match esc y with | none => .bad (s.length + 1) | some c => (strBody s).map (c :: ·)) else (strBody (y :: s)).map (x :: ·)
/-- A text between quotes. -/
def strL (s : List UInt8) : Res (List UInt8) := (wordL [34] s).bind fun _ r => strBody r
/-- What follows a thing in a list up to the closing byte; fuel: at least the length. -/
def moreL {α : Type} (one : List UInt8 → Res α) (e : UInt8) : Nat → List UInt8 → Res (List α)
  | 0, s => .bad s.length
  | n + 1, s => if s.head? = some e then .ok [] (s.drop 1) else (wordL [44] s).bind fun _ r => (one r).bind fun x r2 => (moreL one e n r2).map (x :: ·)
/-- Things between commas up to the closing byte; none: there may be none. -/
def listL {α : Type} (one : List UInt8 → Res α) (e : UInt8) (none : Bool) (s : List UInt8) : Res (List α) :=
  if none = true ∧ s.head? = some e then .ok [] (s.drop 1) else (one s).bind fun x r => (moreL one e (r.length + 1) r).map (x :: ·)

theorem wordL_len : ∀ (w s r : List UInt8), wordL w s = .ok () r → s = w ++ r
  | [], s, r, h => by cases h; rfl
  | _ :: _, [], r, h => by cases h
  | c :: w, x :: s, r, h => by
    rw [wordL] at h
    split at h
    · rename_i e
      rw [wordL_len w s r h, e]
      rfl
    · cases h
theorem wordL_bad : ∀ (w s : List UInt8) (l : Nat), wordL w s = .bad l → l ≤ s.length
  | [], s, l, h => by cases h
  | _ :: _, [], l, h => by cases h; simp
  | c :: w, x :: s, l, h => by
    rw [wordL] at h
    split at h
    · have := wordL_bad w s l h
      simp; omega
    · cases h; simp
end Go.Proofs.Ytdkkgeibifpgiaa.Rc
