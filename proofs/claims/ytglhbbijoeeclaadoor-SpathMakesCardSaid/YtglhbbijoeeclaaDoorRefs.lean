/- spath.CheckRefs in plain Lean. -/
import Derived.Test.YtglhbbijoeeclaaDoorQ28
import Derived.Test.YtglhbbijoeeclaaDoorSpathParse
import Derived.Test.YtglhbbijoeeclaaDoorOrd
set_option linter.unusedVariables false
set_option linter.unusedSimpArgs false
namespace Go.Proofs.YtglhbbijoeeclaaDoor.Refs
open Go.RowKit Go.Proofs.YtglhbbijoeeclaaDoor.Q Go.Proofs.YtglhbbijoeeclaaDoorW.PrintWords Go.Proofs.YtglhbbijoeeclaaDoorW.PrintLast Go.Proofs.YtglhbbijoeeclaaDoorW.PrintMore Go.Proofs.YtglhbbijoeeclaaDoor.Bytes Go.Proofs.YtglhbbijoeeclaaDoor.Evs Go.Proofs.YtglhbbijoeeclaaDoor.SpathPure

/-- The element of a list, the empty text outside. -/
def el (xs : List ByteArray) (i : Nat) : ByteArray := xs.getD i ByteArray.empty
/-- Is element i a path above the one ahead of it? -/
def okAt (xs : List ByteArray) (i : Nat) : Prop := (parseB (el xs i)).2.2 = 0 ∧ (i = 0 ∨ Op.bytesLess (el xs (i - 1)).toList (el xs i).toList = true)
instance (xs : List ByteArray) (i : Nat) : Decidable (okAt xs i) := by unfold okAt; infer_instance
/-- The error's number from element i on. -/
def from_ (xs : List ByteArray) (i : Nat) : Nat → Int
  | 0 => 0
  | d + 1 => if okAt xs i then from_ xs (i + 1) d else 133
def refsNo (xs : List ByteArray) : Int := if 1024 < xs.length then 171 else from_ xs 0 xs.length
theorem el_small {xs : List ByteArray} (h : ∀ x ∈ xs, x.size ≤ 140737488351232) (i : Nat) : (bs (el xs i)).length ≤ 140737488355000 := by
  rw [← size_bs]
  unfold el
  rw [List.getD_eq_getElem?_getD]
  by_cases hi : i < xs.length
  · rw [List.getElem?_eq_getElem hi]
    have := h _ (List.getElem_mem hi)
    simp only [Option.getD_some]
    omega
  · rw [List.getElem?_eq_none (by omega)]
    exact Nat.zero_le _
theorem prog_l0 (xs : List ByteArray) (h : ∀ x ∈ xs, x.size ≤ 140737488351232) (hl : xs.length ≤ 1024) (d : Nat) : ∀ i, i + d = xs.length → Ev (fun k => spath_CheckRefs.l0 k xs xs (xs.length : Int) (i : Int)) (from_ xs i d) := by
  induction d with
  | zero =>
    intro i hi
    refine succ ?_
    simp only [spath_CheckRefs.l0]
    exact neg (by omega) (Ev.now _)
  | succ d ih =>
    intro i hi
    refine succ ?_
    simp only [spath_CheckRefs.l0]
    refine pos (by omega) (pos (by omega) (pos (by omega) ?_))
    rw [rd_nat]
    refine Ev.bind (prog_parse (el xs i) (el_small h i)) ?_
    unfold from_
    rw [wr i (by omega)]
    by_cases hp : (parseB (el xs i)).2.2 = 0
    · refine pos hp ?_
      by_cases h0 : i = 0
      · exact neg (by omega) (same (if_pos ⟨hp, .inl h0⟩) (ih (i + 1) (by omega)))
      · rw [wl i (by omega) (by omega), rd_nat]
        refine pos (by omega) (pos (by omega) (pos (by omega) ?_))
        by_cases hb : Op.bytesLess (el xs (i - 1)).toList (el xs i).toList = true
        · exact pos hb (same (if_pos ⟨hp, .inr hb⟩) (ih (i + 1) (by omega)))
        · exact neg hb (same (if_neg (fun hk => by rcases hk.2 with hk | hk; exact h0 hk; exact hb hk)) (Ev.now _))
    · exact neg hp (same (if_neg (fun hk => hp hk.1)) (Ev.now _))
theorem prog_refs (xs : List ByteArray) (h : ∀ x ∈ xs, x.size ≤ 140737488351232) : Ev (fun k => spath_CheckRefs.f k xs) (refsNo xs) := by
  unfold spath_CheckRefs.f refsNo
  by_cases hl : 1024 < xs.length
  · exact pos (by omega) (same (if_pos hl) (Ev.now _))
  · exact neg (by omega) (same (if_neg hl) (prog_l0 xs h (by omega) xs.length 0 (by omega)))
end Go.Proofs.YtglhbbijoeeclaaDoor.Refs
