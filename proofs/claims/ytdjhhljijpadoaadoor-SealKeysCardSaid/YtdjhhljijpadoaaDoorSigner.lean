/- A signer's name: the program's check and the document's (plain). -/
import Derived.Test.YtdjhhljijpadoaaDoorQ12
import Derived.Test.YtdjhhljijpadoaaDoorQ56
import Derived.Test.YtdjhhljijpadoaaDoorEv
set_option linter.unusedVariables false
set_option linter.unusedSimpArgs false
namespace Go.Proofs.YtdjhhljijpadoaaDoor.Signer
open Go.RowKit Go.Proofs.YtdjhhljijpadoaaDoor.Q Go.Proofs.YtdjhhljijpadoaaDoorW.PrintWords Go.Proofs.YtdjhhljijpadoaaDoorW.PrintLast Go.Proofs.YtdjhhljijpadoaaDoorW.PrintMore Go.Proofs.YtdjhhljijpadoaaDoor.Bytes Go.Proofs.YtdjhhljijpadoaaDoor.Evs
theorem evIte {α : Type} {c : Prop} [Decidable c] {g f : Nat → Option α} {r : α} (h1 : c → Ev g r) (h2 : ¬ c → Ev f r) : Ev (fun n => if c then g n else f n) r := by
  by_cases h : c
  · exact pos h (h1 h)
  · exact neg h (h2 h)
/-- May a byte stand in a signer's name? -/
def Sg (n : Nat) : Prop := (97 ≤ n ∧ n ≤ 122) ∨ (48 ≤ n ∧ n ≤ 57) ∨ n = 46 ∨ n = 45
instance (n : Nat) : Decidable (Sg n) := by unfold Sg; infer_instance
def allS (l : List UInt8) : Int := if ∀ c ∈ l, Sg c.toNat then 0 else 151
def signNo (l : List UInt8) : Int := if l = [] ∨ 32 < l.length then 151 else allS l
theorem allS_nil : allS [] = 0 := by unfold allS; rw [if_pos (by simp)]
theorem allS_cons (c : UInt8) (l : List UInt8) : allS (c :: l) = if Sg c.toNat then allS l else 151 := by
  unfold allS
  by_cases h : Sg c.toNat
  · rw [if_pos h]
    by_cases hl : ∀ c ∈ l, Sg c.toNat
    · rw [if_pos hl, if_pos (by simpa [h] using hl)]
    · rw [if_neg hl, if_neg (by simpa [h] using hl)]
  · rw [if_neg h, if_neg (by simp [h])]
theorem prog_l0 (s : ByteArray) (hs : (bs s).length ≤ 32) (d : Nat) : ∀ i, i + d = (bs s).length → Ev (fun k => info_CheckSigner.l0 k s ((bs s).length : Int) (i : Int)) (allS ((bs s).drop i)) := by
  induction d with
  | zero =>
    intro i hi
    refine succ ?_
    simp only [info_CheckSigner.l0]
    refine neg (by omega) (now ?_)
    rw [List.drop_of_length_le (by omega), allS_nil]
  | succ d ih =>
    intro i hi
    have hil : i < (bs s).length := by omega
    have hn := ih (i + 1) (by omega)
    refine succ ?_
    simp only [info_CheckSigner.l0]
    refine pos (by omega) (pos (by omega) (pos (by rw [size_bs]; omega) ?_))
    rw [bt_lt s i hil, wr i (by omega), List.drop_eq_getElem_cons hil, allS_cons]
    generalize ((bs s)[i]).toNat = c
    have hc : Sg c → Ev (fun k => info_CheckSigner.l0 k s ((bs s).length : Int) ((i + 1 : Nat) : Int)) (if Sg c then allS ((bs s).drop (i + 1)) else 151) := fun h => by rw [if_pos h]; exact hn
    have he : ¬ Sg c → Ev (fun _ => some 151) (if Sg c then allS ((bs s).drop (i + 1)) else 151) := fun h => by rw [if_neg h]; exact Ev.now _
    unfold Sg at hc he ⊢
    repeat' (refine evIte (fun _ => ?_) (fun _ => ?_))
    all_goals first | exact hc (by omega) | exact he (by omega)
theorem prog_signer (s : ByteArray) (hs : (bs s).length ≤ 140737488355000) : Ev (fun k => info_CheckSigner.f k s) (signNo (bs s)) := by
  unfold info_CheckSigner.f signNo
  rw [toList_bs]
  by_cases h0 : bs s = []
  · refine pos h0 (succ ?_)
    simp only [info_CheckSigner.j0]
    exact pos trivial (same (if_pos (.inl h0)) (Ev.now _))
  · refine neg h0 (succ ?_)
    simp only [info_CheckSigner.j0]
    by_cases hl : 32 < (bs s).length
    · exact pos (decide_eq_true (by rw [size_bs]; omega)) (same (if_pos (.inr hl)) (Ev.now _))
    · refine neg (by rw [decide_eq_true_iff, size_bs]; omega) (same (if_neg (by rintro (h | h); exact h0 h; exact hl h)) ?_)
      have := prog_l0 s (by omega) (bs s).length 0 (by omega)
      rw [List.drop_zero] at this
      rw [size_bs]
      exact this
theorem ref_l0 (s : ByteArray) (hs : (bs s).length ≤ 32) (d : Nat) : ∀ i, i + d = (bs s).length → Ev (fun k => depotref15_CheckSigner.l0 k s (i : Int)) (allS ((bs s).drop i)) := by
  induction d with
  | zero =>
    intro i hi
    refine succ ?_
    simp only [depotref15_CheckSigner.l0]
    refine neg (by rw [size_bs]; omega) (now ?_)
    rw [List.drop_of_length_le (by omega), allS_nil]
  | succ d ih =>
    intro i hi
    have hil : i < (bs s).length := by omega
    have hn := ih (i + 1) (by omega)
    refine succ ?_
    simp only [depotref15_CheckSigner.l0]
    refine pos (by rw [size_bs]; omega) (pos (by omega) ?_)
    rw [bt_lt s i hil, wr i (by omega), List.drop_eq_getElem_cons hil, allS_cons]
    generalize ((bs s)[i]).toNat = c
    have hc : Sg c → Ev (fun k => depotref15_CheckSigner.l0 k s ((i + 1 : Nat) : Int)) (if Sg c then allS ((bs s).drop (i + 1)) else 151) := fun h => by rw [if_pos h]; exact hn
    have he : ¬ Sg c → Ev (fun _ => some 151) (if Sg c then allS ((bs s).drop (i + 1)) else 151) := fun h => by rw [if_neg h]; exact Ev.now _
    unfold Sg at hc he ⊢
    repeat' (refine evIte (fun _ => ?_) (fun _ => ?_))
    all_goals first | exact hc (by omega) | exact he (by omega)
theorem ref_signer (s : ByteArray) (hs : (bs s).length ≤ 140737488355000) : Ev (fun k => depotref15_CheckSigner.f k s) (signNo (bs s)) := by
  unfold depotref15_CheckSigner.f signNo
  by_cases h0 : bs s = []
  · refine pos (by rw [size_bs, h0]; decide) (succ ?_)
    simp only [depotref15_CheckSigner.j0]
    exact pos trivial (same (if_pos (.inl h0)) (Ev.now _))
  · have hpos : 0 < (bs s).length := List.length_pos_iff.2 h0
    refine neg (by rw [size_bs]; omega) (succ ?_)
    simp only [depotref15_CheckSigner.j0]
    by_cases hl : 32 < (bs s).length
    · exact pos (decide_eq_true (by rw [size_bs]; omega)) (same (if_pos (.inr hl)) (Ev.now _))
    · refine neg (by rw [decide_eq_true_iff, size_bs]; omega) (same (if_neg (by rintro (h | h); exact h0 h; exact hl h)) ?_)
      have := ref_l0 s (by omega) (bs s).length 0 (by omega)
      rw [List.drop_zero] at this
      exact this
theorem signNo_len {l : List UInt8} (h : signNo l = 0) : l.length ≤ 32 := by
  unfold signNo at h
  by_cases hc : l = [] ∨ 32 < l.length
  · rw [if_pos hc] at h; exact absurd h (by decide)
  · omega
end Go.Proofs.YtdjhhljijpadoaaDoor.Signer
