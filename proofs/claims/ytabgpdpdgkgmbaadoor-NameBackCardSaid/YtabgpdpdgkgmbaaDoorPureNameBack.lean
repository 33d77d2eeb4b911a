/- NameBack, the plain law. -/
import Derived.Test.YtabgpdpdgkgmbaaDoorPdNameBack
import Derived.Test.YtabgpdpdgkgmbaaDoorNameBackPure
set_option linter.unusedVariables false
set_option linter.unusedSimpArgs false
namespace Go.Proofs.YtabgpdpdgkgmbaaDoor.Pure
open Go.RowKit Go.Proofs.YtabgpdpdgkgmbaaDoor.Q Go.Proofs.YtabgpdpdgkgmbaaDoor.Loop Go.Proofs.YtabgpdpdgkgmbaaDoorW.PrintWords Go.Proofs.YtabgpdpdgkgmbaaDoorW.PrintLast Go.Proofs.YtabgpdpdgkgmbaaDoor.Bytes Go.Proofs.YtabgpdpdgkgmbaaDoor.NamePure
theorem back_j0 (l : List ByteArray) (hl : l.length ≤ 8796093021952) (k : Nat) (hk : l.length + 50 ≤ k) : depotlaw05_NameBack.j0 k l = some true := by
  obtain ⟨k, rfl⟩ : ∃ m, k = m + 1 := ⟨k - 1, by omega⟩
  simp only [depotlaw05_NameBack.j0]
  rw [join_f l (by omega) k (by omega)]
  simp only [Option.bind_some]
  unfold joinRes
  cases hj : jfault l 0 with
  | some x =>
    obtain ⟨c, i⟩ := x
    simp only
    rw [if_neg (jfault_code l 0 c i hj), toList_bs]
    rfl
  | none =>
    obtain ⟨h1, h2⟩ := jfault_none l 0 hj (by omega)
    have hz := joinOf_size l (by omega) h2
    simp only [if_true]
    rw [split_res _ (by omega), split_join l (by omega) h2]
    simp only [Option.bind_some, if_true]
    rw [alike_f l l (by omega) k (by omega)]
    simp
theorem NameBack : depotlaw05_NameBack.Pure := by
  intro a l ha hl _
  obtain ⟨hl1, _⟩ := row_len bytes_str hl
  refine ⟨l.length + 100, ?_⟩
  unfold depotlaw05_NameBack.f
  rw [awake_f _ (by omega)]
  simp only [Option.bind_some, if_true]
  rw [split_res a (by omega)]
  simp only [Option.bind_some]
  by_cases h : (splitRes a).2.1 = 0
  · obtain ⟨h1, h2⟩ := split_ok a h
    obtain ⟨h3, h4⟩ := join_ok h1
    rw [if_pos h, join_f _ (by have := h1.len; omega) _ (by have := h1.len; omega), h3]
    simp only [Option.bind_some, if_true]
    rw [if_pos (by rw [toList_bs, toList_bs, h4])]
    exact back_j0 l hl1 _ (by omega)
  · rw [if_neg h, split_bad a h, if_pos (by simp)]
    exact back_j0 l hl1 _ (by omega)
end Go.Proofs.YtabgpdpdgkgmbaaDoor.Pure
