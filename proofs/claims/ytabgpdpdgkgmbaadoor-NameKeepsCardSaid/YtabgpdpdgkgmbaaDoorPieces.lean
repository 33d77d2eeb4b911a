/- Plain lemmas on the pieces of a text between its '/'; no program in sight. -/
import Derived.Test.YtabgpdpdgkgmbaaDoorBytes
import Derived.Lib.IndexLaws
set_option linter.unusedVariables false
set_option linter.unusedSimpArgs false
namespace Go.Proofs.YtabgpdpdgkgmbaaDoor.Bytes
open Go.RowKit Go.Proofs.YtabgpdpdgkgmbaaDoorW.PrintWords

/-- The pieces between the bytes c. -/
def cutAt (c : UInt8) : List UInt8 → List (List UInt8)
  | [] => [[]]
  | x :: r => if x = c then [] :: cutAt c r else match cutAt c r with | [] => [[x]] | h :: t => (x :: h) :: t
theorem cutAt_cons (c x : UInt8) (r : List UInt8) : cutAt c (x :: r) = if x = c then [] :: cutAt c r else match cutAt c r with | [] => [[x]] | h :: t => (x :: h) :: t := rfl
theorem cutAt_ne (c : UInt8) (l : List UInt8) : cutAt c l ≠ [] := by
  cases l with
  | nil => simp [cutAt]
  | cons x r =>
    unfold cutAt
    split
    · simp
    · split <;> simp
/-- No c in it: one piece. -/
theorem cutAt_none (c : UInt8) : ∀ (l : List UInt8), c ∉ l → cutAt c l = [l]
  | [], _ => rfl
  | x :: r, h => by
    have h1 : x ≠ c := fun e => h (e ▸ List.mem_cons_self)
    have h2 : c ∉ r := fun e => h (List.mem_cons_of_mem _ e)
    rw [cutAt_cons, if_neg h1, cutAt_none c r h2]
/-- The first c: the piece ahead of it, and the pieces behind. -/
theorem cutAt_some (c : UInt8) : ∀ (a b : List UInt8), c ∉ a → cutAt c (a ++ c :: b) = a :: cutAt c b
  | [], b, _ => by simp [cutAt]
  | x :: r, b, h => by
    have h1 : x ≠ c := fun e => h (e ▸ List.mem_cons_self)
    have h2 : c ∉ r := fun e => h (List.mem_cons_of_mem _ e)
    rw [List.cons_append, cutAt_cons, if_neg h1, cutAt_some c r b h2]
theorem cutAt_neg (c : UInt8) (l : List UInt8) (h : Lib.indexByte l c < 0) : cutAt c l = [l] := by
  have h1 : Lib.indexByte l c = -1 := by have := Lib.indexByte_ge l c; omega
  refine cutAt_none c l fun hm => ?_
  obtain ⟨k, hk, e⟩ := List.getElem_of_mem hm
  exact Lib.indexByte_none h1 k (by rw [List.getElem?_eq_getElem hk, e])
theorem cutAt_idx (c : UInt8) (l : List UInt8) (o : Nat) (h : Lib.indexByte l c = (o : Int)) : o < l.length ∧ cutAt c l = l.take o :: cutAt c (l.drop (o + 1)) := by
  obtain ⟨h1, h2⟩ := Lib.indexByte_some h
  obtain ⟨hlt, he⟩ := List.getElem?_eq_some_iff.1 h1
  refine ⟨hlt, ?_⟩
  have e : l = l.take o ++ c :: l.drop (o + 1) := by
    conv => lhs; rw [← List.take_append_drop o l, List.drop_eq_getElem_cons hlt, he]
  have hn : c ∉ l.take o := by
    intro hm
    obtain ⟨k, hk, e⟩ := List.getElem_of_mem hm
    rw [List.length_take] at hk
    rw [List.getElem_take] at e
    exact h2 k (by omega) (by rw [List.getElem?_eq_getElem (by omega), e])
  conv => lhs; rw [e]
  exact cutAt_some c _ _ hn
end Go.Proofs.YtabgpdpdgkgmbaaDoor.Bytes
