/- depotlaw13.SpathLabels answers true for every text: a label goes by its bytes. No condition. -/
import Derived.Test.YtglhbbijoeeclaaQ9
import Derived.Test.YtglhbbijoeeclaaExtLabel
set_option linter.unusedVariables false
set_option linter.unusedSimpArgs false
namespace Go.Proofs.Ytglhbbijoeeclaa.Pure
open Go.RowKit Go.Proofs.Ytglhbbijoeeclaa.Q Go.Proofs.YtglhbbijoeeclaaW.PrintWords Go.Proofs.YtglhbbijoeeclaaW.PrintLast Go.Proofs.Ytglhbbijoeeclaa.Bytes

namespace Labels
theorem label (a : ByteArray) : spath_CheckLabel.f a = some (labelNo (bs a)) := rfl
theorem label_one (c : UInt8) : (labelNo [97, c] = 0) ↔ lab c = true := by
  unfold labelNo
  rw [if_neg (by simp)]
  have e : ([97, c] : List UInt8).all lab = lab c := by
    rw [List.all_cons, List.all_cons, List.all_nil, Bool.and_true]
    have : lab 97 = true := by decide
    rw [this, Bool.true_and]
  rw [e]
  cases lab c <;> simp
theorem label_iff (l : List UInt8) : (labelNo l == 0) = (!decide (l = [] ∨ 211 < l.length ∨ l.head? = some 46) && l.all lab) := by
  unfold labelNo
  by_cases h : l = [] ∨ 211 < l.length ∨ l.head? = some 46
  · rw [if_pos h, decide_eq_true h]; rfl
  · rw [if_neg h, decide_eq_false h]
    cases l.all lab <;> rfl
theorem wr (i : Nat) (h : i < 9223372036854775807) : wrap64 ((i : Int) + 1) = ((i + 1 : Nat) : Int) := by rw [w64 (by omega) (by omega)]; omega
theorem one_at (a : ByteArray) (i : Nat) (h : i < (bs a).length) : bs (a.extract i (i + 1)) = [(bs a)[i]] := by
  rw [bs_extract, List.drop_eq_getElem_cons h, show i + 1 - i = 1 by omega]
  rfl
theorem l0 (a : ByteArray) (hs : (bs a).length ≤ 140737488351232) (d : Nat) : ∀ (i k : Nat) (good : Bool), (bs a).length - i = d → i ≤ (bs a).length → d < k →
    depotlaw13_SpathLabels.l0 k a good (i : Int) = some ((labelNo (bs a) == 0) == (good && ((bs a).drop i).all lab)) := by
  induction d with
  | zero =>
    intro i k good hd hi hk
    obtain ⟨k, rfl⟩ : ∃ m, k = m + 1 := ⟨k - 1, by omega⟩
    simp only [depotlaw13_SpathLabels.l0, size_bs]
    rw [if_neg (by omega), label, List.drop_of_length_le (by omega)]
    simp
  | succ d ih =>
    intro i k good hd hi hk
    obtain ⟨k, rfl⟩ : ∃ m, k = m + 1 := ⟨k - 1, by omega⟩
    have hlt : i < (bs a).length := by omega
    simp only [depotlaw13_SpathLabels.l0]
    rw [wr i (by omega), Int.toNat_natCast, Int.toNat_natCast]
    simp only [size_bs, bs_append, one_at a i hlt]
    rw [if_pos (by omega), if_pos (by omega), if_pos (by omega), if_pos (by omega), if_pos (by simp), label, bs_append, one_at a i hlt]
    simp only [Option.bind_some]
    have e97 : bs (⟨#[97]⟩ : ByteArray) = [97] := rfl
    rw [e97]
    show (if labelNo [97, (bs a)[i]] = 0 then _ else _) = _
    have ed : (bs a).drop i = (bs a)[i] :: (bs a).drop (i + 1) := List.drop_eq_getElem_cons hlt
    rw [ed, List.all_cons]
    by_cases h : labelNo [97, (bs a)[i]] = 0
    · rw [if_pos h, ih (i + 1) k good (by omega) (by omega) (by omega), (label_one _).1 h, Bool.true_and]
    · rw [if_neg h, ih (i + 1) k false (by omega) (by omega) (by omega)]
      have hf : lab (bs a)[i] = false := Bool.eq_false_iff.2 (fun e => h ((label_one _).2 e))
      rw [hf]; simp
theorem j1 (a : ByteArray) (hs : (bs a).length ≤ 140737488351232) (good : Bool) (k : Nat) (hk : (bs a).length + 1 < k) (hg : good = !decide (bs a = [] ∨ 211 < (bs a).length ∨ (bs a).head? = some 46)) :
    depotlaw13_SpathLabels.j1 k a good = some true := by
  obtain ⟨k, rfl⟩ : ∃ m, k = m + 1 := ⟨k - 1, by omega⟩
  simp only [depotlaw13_SpathLabels.j1]
  have := l0 a hs (bs a).length 0 k good (by omega) (by omega) (by omega)
  rw [List.drop_zero] at this
  have this2 : depotlaw13_SpathLabels.l0 k a good 0 = _ := this
  rw [this2, label_iff, hg]
  simp
end Labels
open Labels in
theorem SpathLabels : depotlaw13_SpathLabels.Pure := by
  intro a ha
  rw [size_bs] at ha
  refine ⟨(bs a).length + 3, ?_⟩
  unfold depotlaw13_SpathLabels.f
  rw [label, label, label]
  have e1 : labelNo (bs (⟨#[97, 46, 98]⟩ : ByteArray)) = 0 := by decide
  have e2 : labelNo (bs (⟨#[]⟩ : ByteArray)) = 130 := by decide
  have e3 : labelNo (bs (⟨#[46, 97]⟩ : ByteArray)) = 130 := by decide
  rw [e1, e2, e3]
  simp only [Option.bind_some]
  rw [if_pos trivial, if_pos trivial]
  have e4 : ((130 : Int) != 130) = false := by decide
  rw [e4]
  simp only [depotlaw13_SpathLabels.j0, size_bs]
  rw [if_neg (by decide)]
  by_cases h0 : bs a = []
  · rw [if_neg (by rw [h0]; simp)]
    exact j1 a ha false _ (by omega) (by rw [decide_eq_true (.inl h0)]; rfl)
  · have hl : 0 < (bs a).length := List.length_pos_iff.2 h0
    rw [if_pos (by omega)]
    by_cases h1 : (bs a).length ≤ 211
    · rw [if_pos (by omega), if_pos (by omega)]
      refine j1 a ha _ _ (by omega) ?_
      have hb : (bt a 0 = 46) ↔ (bs a).head? = some 46 := by
        have e : bt a 0 = (((bs a).getD 0 0).toNat : Int) := bt_bs a 0
        rw [e, List.getD_eq_getElem?_getD, List.head?_eq_getElem?, List.getElem?_eq_getElem hl]
        simp only [Option.getD_some, Option.some.injEq]
        rw [← byte_eq_iff]; rfl
      rw [Bool.eq_iff_iff, bne_iff_ne, Bool.not_eq_true', decide_eq_false_iff_not, Ne, hb]
      constructor
      · rintro h (h2 | h2 | h2)
        · exact h0 h2
        · omega
        · exact h h2
      · exact fun h h2 => h (.inr (.inr h2))
    · rw [if_neg (by omega)]
      exact j1 a ha false _ (by omega) (by rw [decide_eq_true (.inr (.inl (by omega)))]; rfl)
end Go.Proofs.Ytglhbbijoeeclaa.Pure
