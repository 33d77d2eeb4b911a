/- What the program's Check and the document's Check and Compare answer, in plain words. -/
import Derived.Test.YtabgpdpdgkgmbaaDoorQ11
import Derived.Test.YtabgpdpdgkgmbaaDoorQ23
import Derived.Test.YtabgpdpdgkgmbaaDoorQ30
import Derived.Test.YtabgpdpdgkgmbaaDoorOrd
set_option linter.unusedVariables false
set_option linter.unusedSimpArgs false
namespace Go.Proofs.YtabgpdpdgkgmbaaDoor.NamePure
open Go.RowKit Go.Proofs.YtabgpdpdgkgmbaaDoor.Q Go.Proofs.YtabgpdpdgkgmbaaDoorW.PrintWords Go.Proofs.YtabgpdpdgkgmbaaDoorW.PrintLast Go.Proofs.YtabgpdpdgkgmbaaDoor.Bytes Go.Proofs.YtabgpdpdgkgmbaaDoor.Ord

/-- The error's number of a name. -/
def chk (l : List UInt8) : Int := if l = [] then 50 else if 255 < l.length then 6 else if 47 ∈ l ∨ 0 ∈ l then 51 else if l = [46] ∨ l = [46, 46] then 52 else 0

theorem name_check (a : ByteArray) : name_Check.f a = some (chk (bs a)) := by
  unfold name_Check.f chk
  rw [toList_bs, size_bs]
  by_cases h1 : bs a = []
  · rw [if_pos h1, if_pos h1]
  · rw [if_neg h1, if_neg h1]
    by_cases h2 : 255 < (bs a).length
    · rw [if_pos (by omega), if_pos h2]
    · rw [if_neg (by omega), if_neg h2]
      have e : strings_ContainsAny.f a (⟨#[47, 0]⟩ : ByteArray) = some (decide (47 ∈ bs a ∨ 0 ∈ bs a)) := by
        unfold strings_ContainsAny.f
        rw [if_pos ⟨rfl, by rw [size_bs]; omega⟩]
      rw [e]
      simp only [Option.bind_some]
      by_cases h3 : 47 ∈ bs a ∨ 0 ∈ bs a
      · rw [if_pos (decide_eq_true h3), if_pos h3]
      · rw [if_neg (by simpa using h3), if_neg h3]
        by_cases h4 : bs a = [46]
        · rw [if_pos h4, if_pos (.inl h4)]
        · rw [if_neg h4]
          by_cases h5 : bs a = [46, 46]
          · rw [if_pos h5, if_pos (.inr h5)]
          · rw [if_neg h5, if_neg (by simp [h4, h5])]

theorem getD_of (l : List UInt8) (i : Nat) (h : i < l.length) : l.getD i 0 = l[i] := by rw [List.getD_eq_getElem?_getD, List.getElem?_eq_getElem h]; rfl
theorem bt_lt (s : ByteArray) (i : Nat) (h : i < (bs s).length) : bt s (i : Int) = (((bs s)[i]).toNat : Int) := by rw [bt_bs, Int.toNat_natCast, getD_of _ _ h]
theorem byte47 (c : UInt8) : ((c.toNat : Int) = 47) ↔ c = 47 := by rw [← byte_eq_iff]; rfl
theorem byte46 (c : UInt8) : ((c.toNat : Int) = 46) ↔ c = 46 := by rw [← byte_eq_iff]; rfl
theorem byte0 (c : UInt8) : ((c.toNat : Int) = 0) ↔ c = 0 := by rw [← byte_eq_iff]; rfl
theorem wr (i : Nat) (h : i < 9223372036854775807) : wrap64 ((i : Int) + 1) = ((i + 1 : Nat) : Int) := by rw [w64 (by omega) (by omega)]; omega

theorem ref_l0 (a : ByteArray) (hs : (bs a).length ≤ 140737488351232) (d : Nat) : ∀ (i dots k : Nat), (bs a).length - i = d → i ≤ (bs a).length → dots ≤ i → 2 * d < k →
    depotref05_Check.l0 k a (dots : Int) (i : Int) = some (if 47 ∈ (bs a).drop i ∨ 0 ∈ (bs a).drop i then 51 else if dots + ((bs a).drop i).count 46 = (bs a).length ∧ (bs a).length ≤ 2 then 52 else 0) := by
  induction d with
  | zero =>
    intro i dots k hd hi hdt hk
    obtain ⟨k, rfl⟩ : ∃ m, k = m + 1 := ⟨k - 1, by omega⟩
    simp only [depotref05_Check.l0, size_bs]
    rw [if_neg (by omega), List.drop_of_length_le (by omega)]
    rw [if_neg (show ¬ (47 ∈ ([] : List UInt8) ∨ 0 ∈ ([] : List UInt8)) by simp)]
    by_cases h : (dots : Int) = ((bs a).length : Int)
    · rw [if_pos h]
      by_cases h2 : (dots : Int) ≤ 2
      · rw [if_pos h2, if_pos (by rw [List.count_nil]; omega)]
      · rw [if_neg h2, if_neg (by rw [List.count_nil]; omega)]
    · rw [if_neg h, if_neg (by rw [List.count_nil]; omega)]
  | succ d ih =>
    intro i dots k hd hi hdt hk
    obtain ⟨k, rfl⟩ : ∃ m, k = m + 2 := ⟨k - 2, by omega⟩
    have hlt : i < (bs a).length := by omega
    have ed : (bs a).drop i = (bs a)[i] :: (bs a).drop (i + 1) := List.drop_eq_getElem_cons hlt
    simp only [depotref05_Check.l0, depotref05_Check.j1, size_bs]
    rw [if_pos (by omega), if_pos (by omega), bt_lt a i hlt]
    by_cases h1 : (bs a)[i] = 47
    · rw [if_pos ((byte47 _).2 h1), if_pos trivial, if_pos (by rw [ed, h1]; simp)]
    · rw [if_neg (fun h => h1 ((byte47 _).1 h))]
      by_cases h2 : (bs a)[i] = 0
      · rw [if_pos (by rw [beq_iff_eq, byte0]; exact h2), if_pos (by rw [ed, h2]; simp)]
      · rw [if_neg (by rw [beq_iff_eq, byte0]; exact h2), if_pos (by omega), if_pos (by omega)]
        have em : (47 ∈ (bs a).drop i ∨ 0 ∈ (bs a).drop i) ↔ (47 ∈ (bs a).drop (i + 1) ∨ 0 ∈ (bs a).drop (i + 1)) := by
          rw [ed, List.mem_cons, List.mem_cons]
          simp [Ne.symm h1, Ne.symm h2]
        by_cases h3 : (bs a)[i] = 46
        · have := ih (i + 1) (dots + 1) k (by omega) (by omega) (by omega) (by omega)
          rw [if_pos ((byte46 _).2 h3), wr dots (by omega), wr i (by omega), this, ed, h3]
          simp only [List.mem_cons, List.count_cons_self]
          have e1 : dots + 1 + ((bs a).drop (i + 1)).count 46 = dots + (((bs a).drop (i + 1)).count 46 + 1) := by omega
          rw [e1]
          congr 1
          simp
        · have := ih (i + 1) dots k (by omega) (by omega) (by omega) (by omega)
          rw [if_neg (fun h => h3 ((byte46 _).1 h)), wr i (by omega), this]
          have ec : ((bs a).drop i).count 46 = ((bs a).drop (i + 1)).count 46 := by
            rw [ed, List.count_cons_of_ne h3]
          rw [ec]
          congr 1
          by_cases hm : 47 ∈ (bs a).drop (i + 1) ∨ 0 ∈ (bs a).drop (i + 1)
          · rw [if_pos hm, if_pos (em.2 hm)]
          · rw [if_neg hm, if_neg (fun h => hm (em.1 h))]

theorem ref_check (a : ByteArray) (hs : (bs a).length ≤ 140737488351232) (k : Nat) (hk : 2 * (bs a).length < k) : depotref05_Check.f k a = some (chk (bs a)) := by
  unfold depotref05_Check.f chk
  rw [size_bs]
  by_cases h1 : bs a = []
  · rw [if_pos (by rw [h1]; rfl), if_pos h1]
  · have hl : 0 < (bs a).length := List.length_pos_iff.2 h1
    rw [if_neg (by omega), if_neg h1]
    by_cases h2 : 255 < (bs a).length
    · rw [if_pos (by omega), if_pos h2]
    · rw [if_neg (by omega), if_neg h2]
      have := ref_l0 a hs (bs a).length 0 0 k (by omega) (by omega) (by omega) hk
      rw [List.drop_zero] at this
      have this2 : depotref05_Check.l0 k a 0 0 = _ := this
      rw [this2]
      congr 1
      by_cases h3 : 47 ∈ bs a ∨ 0 ∈ bs a
      · rw [if_pos h3, if_pos h3]
      · rw [if_neg h3, if_neg h3]
        have e : (0 + (bs a).count 46 = (bs a).length ∧ (bs a).length ≤ 2) ↔ (bs a = [46] ∨ bs a = [46, 46]) := by
          rw [Nat.zero_add, List.count_eq_length]
          generalize bs a = l at hl h1
          match l with
          | [] => simp at hl
          | [x] => simp [eq_comm]
          | [x, y] =>
            simp only [List.mem_cons, List.not_mem_nil, or_false, List.length_cons, List.length_nil, List.cons.injEq, and_true, and_false, false_or, reduceCtorEq]
            exact ⟨fun h => ⟨(h.1 x (.inl rfl)).symm, (h.1 y (.inr rfl)).symm⟩, fun h => ⟨fun b hb => by rcases hb with rfl | rfl <;> simp [h], by omega⟩⟩
          | x :: y :: z :: t => simp
        by_cases h4 : bs a = [46] ∨ bs a = [46, 46]
        · rw [if_pos h4, if_pos (e.2 h4)]
        · rw [if_neg h4, if_neg (fun h => h4 (e.1 h))]


theorem cmp_l0 (a b : ByteArray) (ha : (bs a).length ≤ 140737488351232) (hb : (bs b).length ≤ 140737488351232) (d : Nat) : ∀ (i k : Nat), (bs a).length - i = d → i ≤ (bs a).length → i ≤ (bs b).length → 3 * d + 2 ≤ k →
    depotref05_Compare.l0 k a b (i : Int) = some (Lib.compareBytes ((bs a).drop i) ((bs b).drop i)) := by
  induction d with
  | zero =>
    intro i k hd hi hib hk
    obtain ⟨k, rfl⟩ : ∃ m, k = m + 2 := ⟨k - 2, by omega⟩
    have ei : i = (bs a).length := by omega
    simp only [depotref05_Compare.l0, depotref05_Compare.j1, size_bs]
    rw [if_neg (by omega), List.drop_of_length_le (l := bs a) (by omega)]
    by_cases h : i < (bs b).length
    · rw [if_pos (decide_eq_true (by omega)), if_pos (by omega), List.drop_eq_getElem_cons h]
      rfl
    · rw [if_neg (by rw [decide_eq_true_iff]; omega), List.drop_of_length_le (by omega)]
      rfl
  | succ d ih =>
    intro i k hd hi hib hk
    obtain ⟨k, rfl⟩ : ∃ m, k = m + 3 := ⟨k - 3, by omega⟩
    have hlt : i < (bs a).length := by omega
    simp only [depotref05_Compare.l0, depotref05_Compare.j1, depotref05_Compare.j2, size_bs]
    rw [if_pos (by omega), if_pos trivial, if_neg (by omega), List.drop_eq_getElem_cons hlt]
    by_cases h : i = (bs b).length
    · rw [if_pos (by omega), if_pos trivial, List.drop_of_length_le (l := bs b) (by omega)]
      rfl
    · have hltb : i < (bs b).length := by omega
      rw [if_neg (by omega), if_pos (by omega), if_pos (by omega), if_pos (by omega), bt_lt a i hlt, bt_lt b i hltb, List.drop_eq_getElem_cons hltb]
      simp only [Lib.compareBytes, UInt8.lt_iff_toNat_lt]
      by_cases h1 : (bs b)[i].toNat < (bs a)[i].toNat
      · rw [if_pos (decide_eq_true (by omega)), if_neg (by omega), if_pos h1]
      · rw [if_neg (by rw [decide_eq_true_iff]; omega), if_pos (by omega), if_pos (by omega), if_pos (by omega)]
        by_cases h2 : (bs a)[i].toNat < (bs b)[i].toNat
        · rw [if_pos (by omega), if_pos h2]
        · rw [if_neg (by omega), if_neg h2, if_neg h1, wr i (by omega)]
          exact ih (i + 1) k (by omega) (by omega) (by omega) (by omega)
theorem ref_compare (a b : ByteArray) (ha : (bs a).length ≤ 140737488351232) (hb : (bs b).length ≤ 140737488351232) (k : Nat) (hk : 3 * (bs a).length + 2 ≤ k) : depotref05_Compare.f k a b = some (Lib.compareBytes (bs a) (bs b)) := by
  have := cmp_l0 a b ha hb (bs a).length 0 k (by omega) (by omega) (by omega) hk
  rw [List.drop_zero, List.drop_zero] at this
  exact this
end Go.Proofs.YtabgpdpdgkgmbaaDoor.NamePure
