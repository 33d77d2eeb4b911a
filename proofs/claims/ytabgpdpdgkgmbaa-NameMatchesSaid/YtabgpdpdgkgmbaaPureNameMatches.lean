/- depotlaw05.NameMatches answers true for every pattern and text: the program's Match is the document's. No condition. -/
import Derived.Test.YtabgpdpdgkgmbaaQ11
import Derived.Test.YtabgpdpdgkgmbaaFitsMore
set_option linter.unusedVariables false
set_option linter.unusedSimpArgs false
namespace Go.Proofs.Ytabgpdpdgkgmbaa.Pure
open Go.RowKit Go.Proofs.Ytabgpdpdgkgmbaa.Q Go.Proofs.YtabgpdpdgkgmbaaW.PrintWords Go.Proofs.YtabgpdpdgkgmbaaW.PrintLast Go.Proofs.Ytabgpdpdgkgmbaa.Bytes Go.Proofs.Ytabgpdpdgkgmbaa.Fits

theorem byte42 (c : UInt8) : ((c.toNat : Int) = 42) ↔ c = 42 := by rw [← byte_eq_iff]; rfl
theorem byte63 (c : UInt8) : ((c.toNat : Int) = 63) ↔ c = 63 := by rw [← byte_eq_iff]; rfl
theorem rdOf_nat (xs : List Bool) (i : Nat) : rdOf false xs (i : Int) = xs.getD i false := by simp [rdOf]
theorem getD_of (l : List UInt8) (i : Nat) (h : i < l.length) : l.getD i 0 = l[i] := by rw [List.getD_eq_getElem?_getD, List.getElem?_eq_getElem h]; rfl

theorem wr (j : Nat) (h : j ≤ 140737488351233) : wrap64 ((j : Int) + 1) = ((j + 1 : Nat) : Int) := by rw [w64 (by omega) (by omega)]; omega
theorem wl (j : Nat) (h : j ≤ 140737488351233) : wrap64 (((j + 1 : Nat) : Int) - 1) = (j : Int) := by rw [w64 (by omega) (by omega)]; omega
theorem bt_lt (s : ByteArray) (i : Nat) (h : i < (bs s).length) : bt s (i : Int) = (((bs s)[i]).toNat : Int) := by rw [bt_bs, Int.toNat_natCast, getD_of _ _ h]
/-- One letter of the pattern: the next row of the table. -/
theorem l1_row (a0 a1 : ByteArray) (h0 : a0.size ≤ 140737488351232) (h1 : a1.size ≤ 140737488351232) (i : Nat) (hi : i < (bs a0).length) (d : Nat) : ∀ (k j : Nat), j + d = (bs a1).length + 1 →
    depotref05_Match.l1 (k + d + 1) a0 a1 (Row ((bs a0).take i) (bs a1)) (i : Int) (bt a0 (i : Int)) (nx ((bs a0).take (i + 1)) (bs a1) j) (j : Int) = depotref05_Match.l0 k a0 a1 (Row ((bs a0).take (i + 1)) (bs a1)) ((i : Int) + 1) := by
  have s0 : a0.size = (bs a0).length := size_bs a0
  have s1 : a1.size = (bs a1).length := size_bs a1
  have eP : (bs a0).take (i + 1) = (bs a0).take i ++ [(bs a0)[i]] := take_snoc _ _ hi
  induction d with
  | zero =>
    intro k j hj
    have ej : j = (bs a1).length + 1 := by omega
    subst ej
    simp only [depotref05_Match.l1]
    rw [if_neg (by omega), nx_done]
    rw [wr i (by omega)]
    rfl
  | succ d ih =>
    intro k j hj
    have hle : j ≤ (bs a1).length := by omega
    have ih := ih k (j + 1) (by omega)
    have lr : (Row ((bs a0).take i) (bs a1)).length = (bs a1).length + 1 := Row_length _ _
    have ln : (nx ((bs a0).take (i + 1)) (bs a1) j).length = (bs a1).length + 1 := nx_length _ _ _ (by omega)
    have en : ((j : Int)).toNat = j := Int.toNat_natCast j
    have hst := nx_set ((bs a0).take (i + 1)) (bs a1) j hle
    have rj : rdOf false (Row ((bs a0).take i) (bs a1)) (j : Int) = fits ((bs a0).take i) ((bs a1).take j) := (rdOf_nat _ _).trans (Row_get _ _ _ hle)
    rw [show k + (d + 1) + 1 = (k + d + 1) + 1 by omega]
    have c1 : (j : Int) ≤ (a1.size : Int) := by rw [s1]; exact Int.ofNat_le.2 hle
    rw [depotref05_Match.l1, if_pos c1, wr j (by omega), en]
    by_cases hc : (bs a0)[i] = 42
    · rw [if_pos (by rw [bt_lt a0 i hi, byte42]; exact hc), if_pos (by omega), if_pos (by rw [lr]; omega), rj]
      cases j with
      | zero =>
        have e0 : fits ((bs a0).take (i + 1)) ((bs a1).take 0) = fits ((bs a0).take i) ((bs a1).take 0) := by
          rw [eP, hc, List.take_zero, fits_snoc_star_nil]
        by_cases hf : fits ((bs a0).take i) ((bs a1).take 0) = true
        · rw [if_pos hf, if_pos (by rw [ln]; omega)]
          rw [e0, hf] at hst
          rw [hst]
          exact ih
        · rw [if_neg hf, if_neg (by omega), if_pos (by rw [ln]; omega)]
          rw [e0, Bool.eq_false_iff.2 hf] at hst
          rw [hst]
          exact ih
      | succ j =>
        have hlt : j < (bs a1).length := by omega
        have e0 : fits ((bs a0).take (i + 1)) ((bs a1).take (j + 1)) = (fits ((bs a0).take i) ((bs a1).take (j + 1)) || fits ((bs a0).take (i + 1)) ((bs a1).take j)) := by
          rw [take_snoc _ _ hlt, eP, hc, fits_snoc_star]
        by_cases hf : fits ((bs a0).take i) ((bs a1).take (j + 1)) = true
        · rw [if_pos hf, if_pos (by rw [ln]; omega)]
          rw [e0, hf, Bool.true_or] at hst
          rw [hst]
          exact ih
        · rw [if_neg hf, if_pos (by omega), wl j (by omega), if_pos (by omega), if_pos (by rw [ln]; omega), if_pos (by rw [ln]; omega)]
          rw [e0, Bool.eq_false_iff.2 hf, Bool.false_or] at hst
          rw [rdOf_nat, nx_get _ _ _ (by omega), hst]
          exact ih
    · rw [if_neg (by rw [bt_lt a0 i hi, byte42]; exact hc)]
      cases j with
      | zero =>
        rw [if_neg (by omega)]
        rw [nx_skip _ _ _ hle (by rw [eP, List.take_zero, fits_snoc_nil hc])]
        exact ih
      | succ j =>
        have hlt : j < (bs a1).length := by omega
        have e0 : fits ((bs a0).take (i + 1)) ((bs a1).take (j + 1)) = (fits ((bs a0).take i) ((bs a1).take j) && ((bs a0)[i] == 63 || (bs a0)[i] == (bs a1)[j])) := by
          rw [take_snoc _ _ hlt, eP, fits_snoc hc]
        have rj' : rdOf false (Row ((bs a0).take i) (bs a1)) (j : Int) = fits ((bs a0).take i) ((bs a1).take j) := (rdOf_nat _ _).trans (Row_get _ _ _ (by omega))
        rw [if_pos (by omega), wl j (by omega), if_pos (by omega), if_pos (by rw [lr]; omega), rj']
        by_cases hf : fits ((bs a0).take i) ((bs a1).take j) = true
        · rw [if_pos hf]
          rw [hf, Bool.true_and] at e0
          by_cases hq : (bs a0)[i] = 63
          · rw [if_pos (by rw [bt_lt a0 i hi, byte63]; exact hq), if_pos (by omega), if_pos (by rw [ln]; omega)]
            rw [e0, hq] at hst
            have : ((63 : UInt8) == 63 || (63 : UInt8) == (bs a1)[j]) = true := rfl
            rw [this] at hst
            rw [hst]
            exact ih
          · rw [if_neg (by rw [bt_lt a0 i hi, byte63]; exact hq), if_pos (by omega), if_pos (by omega), if_pos (by rw [ln]; omega)]
            have ex : (bt a0 (i : Int) == bt a1 (j : Int)) = ((bs a0)[i] == 63 || (bs a0)[i] == (bs a1)[j]) := by
              rw [bt_lt a0 i hi, bt_lt a1 j hlt, beq_eq_false_iff_ne.2 hq, Bool.false_or, Bool.eq_iff_iff, beq_iff_eq, beq_iff_eq, byte_eq_iff]
            rw [ex, ← e0, hst]
            exact ih
        · rw [if_neg hf]
          rw [Bool.eq_false_iff.2 hf, Bool.false_and] at e0
          rw [nx_skip _ _ _ hle e0]
          exact ih

theorem l0_rows (a0 a1 : ByteArray) (h0 : a0.size ≤ 140737488351232) (h1 : a1.size ≤ 140737488351232) (d : Nat) : ∀ i : Nat, i + d = (bs a0).length →
    depotref05_Match.l0 (d * ((bs a1).length + 3) + 1) a0 a1 (Row ((bs a0).take i) (bs a1)) (i : Int) = some (fits (bs a0) (bs a1)) := by
  have s0 : a0.size = (bs a0).length := size_bs a0
  have s1 : a1.size = (bs a1).length := size_bs a1
  induction d with
  | zero =>
    intro i hi
    have ei : i = (bs a0).length := by omega
    subst ei
    rw [Nat.zero_mul, Nat.zero_add, depotref05_Match.l0]
    rw [if_neg (by omega), if_pos (by omega), if_pos (by rw [Row_length]; omega), s1, rdOf_nat, Row_get _ _ _ (Nat.le_refl _), List.take_length, List.take_length]
  | succ d ih =>
    intro i hi
    have hlt : i < (bs a0).length := by omega
    have en : ((((bs a1).length + 1 : Nat) : Int)).toNat = (bs a1).length + 1 := by omega
    rw [show (d + 1) * ((bs a1).length + 3) + 1 = (d * ((bs a1).length + 3) + 1 + ((bs a1).length + 1) + 1) + 1 by rw [Nat.add_mul]; omega]
    rw [depotref05_Match.l0, if_pos (by omega), if_pos (by omega), wr a1.size (by omega), s1, en, if_pos (by omega), if_pos (by omega)]
    have := l1_row a0 a1 h0 h1 i hlt ((bs a1).length + 1) (d * ((bs a1).length + 3) + 1) 0 (by omega)
    rw [nx_start] at this
    have this := this.trans (ih (i + 1) (by omega))
    exact this

theorem ref_match (a0 a1 : ByteArray) (h0 : a0.size ≤ 140737488351232) (h1 : a1.size ≤ 140737488351232) : depotref05_Match.f ((bs a0).length * ((bs a1).length + 3) + 1) a0 a1 = some (fits (bs a0) (bs a1)) := by
  have s1 : a1.size = (bs a1).length := size_bs a1
  have en : ((((bs a1).length + 1 : Nat) : Int)).toNat = (bs a1).length + 1 := by omega
  unfold depotref05_Match.f
  rw [wr a1.size (by omega), s1, en, if_pos (by omega), if_pos (by omega)]
  simp only [Option.bind_some, List.length_replicate]
  rw [if_pos (by omega)]
  have er : (List.replicate ((bs a1).length + 1) false).set (0 : Int).toNat true = Row ((bs a0).take 0) (bs a1) := by
    rw [List.take_zero]
    apply List.ext_getElem?
    intro n
    unfold Row
    rw [List.getElem?_set, List.getElem?_map]
    cases n with
    | zero => simp; rfl
    | succ n =>
      rw [if_neg (by simp), List.getElem?_replicate]
      by_cases h : n + 1 < (bs a1).length + 1
      · rw [if_pos h, List.getElem?_range h, Option.map_some, fits_nil]
        congr 1
        symm
        rw [List.isEmpty_eq_false_iff]
        intro e
        have := congrArg List.length e
        rw [List.length_take, List.length_nil] at this
        clear s1
        omega
      · rw [if_neg h, List.getElem?_eq_none (by rw [List.length_range]; exact Nat.not_lt.1 h)]
        rfl
  rw [er]
  have := l0_rows a0 a1 h0 h1 (bs a0).length 0 (by omega)
  exact this

theorem match_some (a b : ByteArray) (ha : a.size ≤ 1000000000000000) (hb : b.size ≤ 1000000000000000) : name_Match.f a b = some (fits (bs a) (bs b)) := by
  unfold name_Match.f
  rw [if_pos ⟨ha, hb⟩]

theorem NameMatches : depotlaw05_NameMatches.Pure := by
  intro a b ha hb
  refine ⟨(bs a).length * ((bs b).length + 3) + 1, ?_⟩
  unfold depotlaw05_NameMatches.f
  rw [match_some _ _ (by decide) (by decide), match_some _ _ (by decide) (by decide), match_some a b (by omega) (by omega), ref_match a b ha hb]
  simp only [Option.bind_some]
  rw [if_pos (by decide), if_neg (by decide)]
  simp

end Go.Proofs.Ytabgpdpdgkgmbaa.Pure
