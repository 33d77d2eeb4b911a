/- depotlaw13.SpathChecks answers true for every label, hash and references: the checks are the document's. No condition. -/
import Derived.Test.YtglhbbijoeeclaaPdSpathChecks
import Derived.Test.YtglhbbijoeeclaaSpathParse
import Derived.Test.YtglhbbijoeeclaaOrd
set_option linter.unusedVariables false
set_option linter.unusedSimpArgs false
namespace Go.Proofs.Ytglhbbijoeeclaa.Pure
open Go.RowKit Go.Proofs.Ytglhbbijoeeclaa.Q Go.Proofs.YtglhbbijoeeclaaW.PrintWords Go.Proofs.YtglhbbijoeeclaaW.PrintLast Go.Proofs.YtglhbbijoeeclaaW.PrintMore Go.Proofs.Ytglhbbijoeeclaa.Bytes Go.Proofs.Ytglhbbijoeeclaa.Evs Go.Proofs.Ytglhbbijoeeclaa.SpathPure

namespace Checks
/-- The element of a list, the empty text outside. -/
def el (xs : List ByteArray) (i : Nat) : ByteArray := xs.getD i ByteArray.empty
/-- Is element i a path above the one ahead of it? -/
def okAt (xs : List ByteArray) (i : Nat) : Prop := (parseB (el xs i)).2.2 = 0 ∧ (i = 0 ∨ Op.bytesLess (el xs (i - 1)).toList (el xs i).toList = true)
instance (xs : List ByteArray) (i : Nat) : Decidable (okAt xs i) := by unfold okAt; infer_instance
/-- The error's number from element i on. -/
def from_ (xs : List ByteArray) (i : Nat) : Nat → Int
  | 0 => 0
  | d + 1 => if okAt xs i then from_ xs (i + 1) d else 133
def refsNo (xs : List ByteArray) : Int := if 1024 < xs.length then 171 else from_ xs 0 xs.length
theorem el_small {xs : List ByteArray} (h : ∀ x ∈ xs, x.size ≤ 140737488351232) (i : Nat) : (bs (el xs i)).length ≤ 140737488355000 := by
  rw [← size_bs]
  unfold el
  rw [List.getD_eq_getElem?_getD]
  by_cases hi : i < xs.length
  · rw [List.getElem?_eq_getElem hi]
    have := h _ (List.getElem_mem hi)
    simp only [Option.getD_some]
    omega
  · rw [List.getElem?_eq_none (by omega)]
    exact Nat.zero_le _
theorem prog_l0 (xs : List ByteArray) (h : ∀ x ∈ xs, x.size ≤ 140737488351232) (hl : xs.length ≤ 1024) (d : Nat) : ∀ i, i + d = xs.length → Ev (fun k => spath_CheckRefs.l0 k xs xs (xs.length : Int) (i : Int)) (from_ xs i d) := by
  induction d with
  | zero =>
    intro i hi
    refine succ ?_
    simp only [spath_CheckRefs.l0]
    exact neg (by omega) (Ev.now _)
  | succ d ih =>
    intro i hi
    refine succ ?_
    simp only [spath_CheckRefs.l0]
    refine pos (by omega) (pos (by omega) (pos (by omega) ?_))
    rw [rd_nat]
    refine Ev.bind (prog_parse (el xs i) (el_small h i)) ?_
    unfold from_
    rw [wr i (by omega)]
    by_cases hp : (parseB (el xs i)).2.2 = 0
    · refine pos hp ?_
      by_cases h0 : i = 0
      · exact neg (by omega) (same (if_pos ⟨hp, .inl h0⟩) (ih (i + 1) (by omega)))
      · rw [wl i (by omega) (by omega), rd_nat]
        refine pos (by omega) (pos (by omega) (pos (by omega) ?_))
        by_cases hb : Op.bytesLess (el xs (i - 1)).toList (el xs i).toList = true
        · exact pos hb (same (if_pos ⟨hp, .inr hb⟩) (ih (i + 1) (by omega)))
        · exact neg hb (same (if_neg (fun hk => by rcases hk.2 with hk | hk; exact h0 hk; exact hb hk)) (Ev.now _))
    · exact neg hp (same (if_neg (fun hk => hp hk.1)) (Ev.now _))
theorem prog_refs (xs : List ByteArray) (h : ∀ x ∈ xs, x.size ≤ 140737488351232) : Ev (fun k => spath_CheckRefs.f k xs) (refsNo xs) := by
  unfold spath_CheckRefs.f refsNo
  by_cases hl : 1024 < xs.length
  · exact pos (by omega) (same (if_pos hl) (Ev.now _))
  · exact neg (by omega) (same (if_neg hl) (prog_l0 xs h (by omega) xs.length 0 (by omega)))
theorem good (s : ByteArray) (hs : (bs s).length ≤ 140737488355000) : Ev (fun k => depotref13_Good.f k s) ((parseB s).2.2 == 0) := by
  unfold depotref13_Good.f
  exact Ev.bind (ref_parse s hs) (Ev.now _)
/-- A path isn't empty: it stands above the empty text. -/
theorem above_nil (s : ByteArray) (h : (parseB s).2.2 = 0) : Op.bytesLess ByteArray.empty.toList s.toList = true := by
  have : 46 ≤ (bs s).length := by
    unfold parseB at h
    by_cases hp : isPath0 (bs s)
    · exact hp.2.1
    · rw [if_neg hp] at h
      exact absurd h (by decide)
  rw [toList_bs, toList_bs]
  have e : bs ByteArray.empty = [] := rfl
  rw [e]
  match bs s, this with
  | c :: t, _ => rfl
theorem ref_l0 (xs : List ByteArray) (h : ∀ x ∈ xs, x.size ≤ 140737488351232) (hl : xs.length ≤ 1024) (d : Nat) : ∀ i (last : ByteArray), i + d = xs.length → (last = if i = 0 then ByteArray.empty else el xs (i - 1)) → Ev (fun k => depotref13_CheckRefs.l0 k xs last (i : Int)) (from_ xs i d) := by
  induction d with
  | zero =>
    intro i last hi hlast
    refine succ ?_
    simp only [depotref13_CheckRefs.l0]
    exact neg (by omega) (Ev.now _)
  | succ d ih =>
    intro i last hi hlast
    refine succ ?_
    simp only [depotref13_CheckRefs.l0]
    refine pos (by omega) (pos (by omega) ?_)
    rw [rd_nat]
    refine Ev.bind (good (el xs i) (el_small h i)) ?_
    unfold from_
    rw [wr i (by omega)]
    by_cases hp : (parseB (el xs i)).2.2 = 0
    · refine pos (by rw [hp]; rfl) ?_
      have hih := ih (i + 1) (el xs i) (by omega) (by rw [if_neg (by omega)]; rfl)
      by_cases h0 : i = 0
      · refine pos ?_ (same (if_pos ⟨hp, .inl h0⟩) hih)
        rw [hlast, if_pos h0]
        exact above_nil _ hp
      · rw [if_neg h0] at hlast
        by_cases hb : Op.bytesLess (el xs (i - 1)).toList (el xs i).toList = true
        · refine pos ?_ (same (if_pos ⟨hp, .inr hb⟩) hih)
          rw [hlast]
          exact hb
        · refine neg ?_ (same (if_neg (fun hk => by rcases hk.2 with hk | hk; exact h0 hk; exact hb hk)) (Ev.now _))
          rw [hlast]
          exact hb
    · exact neg (by rw [beq_iff_eq]; exact hp) (same (if_neg (fun hk => hp hk.1)) (Ev.now _))
theorem ref_refs (xs : List ByteArray) (h : ∀ x ∈ xs, x.size ≤ 140737488351232) : Ev (fun k => depotref13_CheckRefs.f k xs) (refsNo xs) := by
  unfold depotref13_CheckRefs.f refsNo
  by_cases hl : 1024 < xs.length
  · exact pos (by omega) (same (if_pos hl) (Ev.now _))
  · exact neg (by omega) (same (if_neg hl) (ref_l0 xs h (by omega) xs.length 0 _ (by omega) (by rw [if_pos rfl]; rfl)))
end Checks
open Checks in
theorem SpathChecks : depotlaw13_SpathChecks.Pure := by
  intro a b xs ha hb hw hg
  rw [size_bs] at ha hb
  have h : ∀ x ∈ xs, x.size ≤ 140737488351232 := fun x hx => hw x.size (List.mem_cons_of_mem _ (List.mem_flatMap.2 ⟨x, hx, List.mem_singleton.2 rfl⟩))
  apply Ev.rounds
  unfold depotlaw13_SpathChecks.f
  refine Ev.bind awake (pos rfl (call (show spath_CheckLabel.f a = some (labelNo (bs a)) from rfl) (Ev.bind (ref_label a) (pos rfl (Ev.bind (prog_hash b hb) (Ev.bind (ref_hash b) (pos rfl ?_)))))))
  refine Ev.bind (prog_refs xs h) (Ev.bind (ref_refs xs h) (same ?_ (Ev.now _)))
  simp
end Go.Proofs.Ytglhbbijoeeclaa.Pure
