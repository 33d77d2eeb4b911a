/- depotlaw05.NameUnders answers true for every path and top: the program's Under is the document's. No condition. -/
import Derived.Test.YtabgpdpdgkgmbaaQ4
import Derived.Test.YtabgpdpdgkgmbaaBytes
set_option linter.unusedVariables false
set_option linter.unusedSimpArgs false
namespace Go.Proofs.Ytabgpdpdgkgmbaa.Pure
open Go.RowKit Go.Proofs.Ytabgpdpdgkgmbaa.Q Go.Proofs.YtabgpdpdgkgmbaaW.PrintWords Go.Proofs.YtabgpdpdgkgmbaaW.PrintLast Go.Proofs.Ytabgpdpdgkgmbaa.Bytes

theorem hasPrefix (a b : ByteArray) : strings_HasPrefix.f a b = some (decide (bs b <+: bs a)) := by
  unfold strings_HasPrefix.f stringslite_HasPrefix.f
  simp only [toList_bs, bs_extract, size_bs, Option.bind_some]
  have e : ((((bs b).length : Int) : Int).toNat) = (bs b).length := by omega
  rw [e]
  simp only [List.drop_zero, Nat.sub_zero]
  by_cases h : (bs b).length ≤ (bs a).length
  · rw [if_pos (by omega), if_pos (by omega), if_pos (by omega)]
    simp only [Option.bind_some, Option.some.injEq]
    rw [Bool.eq_iff_iff]
    simp only [beq_iff_eq, decide_eq_true_eq]
    rw [List.prefix_iff_eq_take]
    exact eq_comm
  · rw [if_neg (by omega)]
    simp only [Option.bind_some, Option.some.injEq]
    symm
    rw [decide_eq_false_iff_not]
    intro hp
    exact h hp.length_le

theorem under_iff (a b : List UInt8) (hb : b ≠ []) : (a = b ∨ (b ++ [47]) <+: a) ↔ (b <+: a ∧ (a.length = b.length ∨ a.getD b.length 0 = 47)) := by
  constructor
  · rintro (rfl | h)
    · exact ⟨List.prefix_refl _, .inl rfl⟩
    · refine ⟨(List.prefix_append b [47]).trans h, .inr ?_⟩
      obtain ⟨t, rfl⟩ := h
      simp
  · rintro ⟨⟨t, rfl⟩, h⟩
    cases t with
    | nil => left; simp
    | cons c t =>
      right
      rcases h with h | h
      · simp at h
      · simp at h
        subst h
        exact ⟨t, by simp⟩

theorem name_under (a b : ByteArray) (hb : b.size ≤ 140737488351232) : name_Under.f a b = some (decide (bs b = [] ∨ bs a = bs b ∨ (bs b ++ [47]) <+: bs a)) := by
  unfold name_Under.f
  rw [hasPrefix, bs_append]
  simp only [toList_bs, size_bs, Option.bind_some]
  have e : bs (⟨#[47]⟩ : ByteArray) = [47] := rfl
  rw [e]
  rw [size_bs] at hb
  by_cases h1 : bs b = []
  · rw [if_pos h1]
    simp [h1]
  · rw [if_neg h1]
    by_cases h2 : bs a = bs b
    · rw [if_pos h2]
      simp [h2]
    · rw [if_neg h2, if_pos (by omega)]
      simp [h1, h2]

theorem ref_under (a b : ByteArray) : depotref05_Under.f a b = some (decide (bs b = [] ∨ bs a = bs b ∨ (bs b ++ [47]) <+: bs a)) := by
  unfold depotref05_Under.f
  simp only [toList_bs, bs_extract, size_bs, bt_bs]
  have e : ((((bs b).length : Int) : Int).toNat) = (bs b).length := by omega
  rw [e]
  simp only [List.drop_zero, Nat.sub_zero]
  generalize bs a = a
  generalize bs b = b
  rw [Option.some.injEq, decide_eq_decide]
  by_cases h1 : b = []
  · simp [h1]
  · have hl : 0 < b.length := List.length_pos_iff.2 h1
    have u := under_iff a b h1
    have hp : (List.take b.length a = b) ↔ b <+: a := by rw [List.prefix_iff_eq_take]; exact eq_comm
    have hb : (((a.getD b.length 0).toNat : Int) = 47) ↔ a.getD b.length 0 = 47 := by
      rw [← UInt8.toNat_inj]
      show _ ↔ _ = 47
      omega
    rw [hp, hb]
    constructor
    · rintro (h | ⟨h, h2, h3⟩)
      · omega
      · exact .inr (u.2 ⟨h2, h3⟩)
    · rintro (h | h)
      · exact absurd h h1
      · obtain ⟨h2, h3⟩ := u.1 h
        exact .inr ⟨h2.length_le, h2, h3⟩

theorem NameUnders : depotlaw05_NameUnders.Pure := by
  intro a b ha hb
  unfold depotlaw05_NameUnders.f
  rw [name_under _ _ (by decide), name_under _ _ (by decide), name_under a b hb, ref_under a b]
  simp only [Option.bind_some]
  rw [if_pos (by decide), if_neg (by decide)]
  simp

end Go.Proofs.Ytabgpdpdgkgmbaa.Pure
