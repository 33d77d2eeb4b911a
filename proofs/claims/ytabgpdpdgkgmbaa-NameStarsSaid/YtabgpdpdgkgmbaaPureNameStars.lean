/- depotlaw05.NameStars answers true: patterns go with putting texts one behind the other. No condition. -/
import Derived.Test.YtabgpdpdgkgmbaaPdNameStars
import Derived.Test.YtabgpdpdgkgmbaaFitsMore
set_option linter.unusedVariables false
set_option linter.unusedSimpArgs false
namespace Go.Proofs.Ytabgpdpdgkgmbaa.Pure
open Go.RowKit Go.Proofs.Ytabgpdpdgkgmbaa.Q Go.Proofs.YtabgpdpdgkgmbaaW.PrintWords Go.Proofs.YtabgpdpdgkgmbaaW.PrintLast Go.Proofs.Ytabgpdpdgkgmbaa.Bytes Go.Proofs.Ytabgpdpdgkgmbaa.Fits

namespace Stars
theorem match_some (a b : ByteArray) (ha : a.size ≤ 1000000000000000) (hb : b.size ≤ 1000000000000000) : name_Match.f a b = some (fits (bs a) (bs b)) := by
  unfold name_Match.f
  rw [if_pos ⟨ha, hb⟩]
theorem size_app (a b : ByteArray) : (a ++ b).size = a.size + b.size := by rw [size_bs, size_bs, size_bs, bs_append, List.length_append]
theorem fits_both {p q s t : List UInt8} (h1 : fits p s = true) (h2 : fits q t = true) : fits (p ++ q) (s ++ t) = true := by
  rw [fits_append]
  exact ⟨s.length, by simp, by rw [List.take_left]; exact h1, by rw [List.drop_left]; exact h2⟩
theorem fits_one (t : List UInt8) : fits [63] t = (t.length == 1) := by
  cases t with
  | nil => rfl
  | cons x t =>
    rw [fits_char (by decide)]
    cases t with
    | nil => rfl
    | cons y t => simp [fits]
theorem j2 (a : ByteArray) (ha : a.size ≤ 140737488351232) (k : Nat) : depotlaw05_NameStars.j2 (k + 1) a false = some true := by
  simp only [depotlaw05_NameStars.j2]
  rw [if_neg (by decide), match_some _ _ (by decide) (by omega), match_some _ _ (by decide) (by omega)]
  simp only [Option.bind_some]
  have e1 : bs (⟨#[42]⟩ : ByteArray) = [42] := rfl
  have e2 : bs (⟨#[63]⟩ : ByteArray) = [63] := rfl
  rw [e1, e2, fits_any, fits_one, if_pos rfl, size_bs]
  congr 1
  rw [beq_iff_eq, Bool.eq_iff_iff, beq_iff_eq, beq_iff_eq]
  omega
theorem j1 (a p s q t : ByteArray) (ha : a.size ≤ 140737488351232) (hp : p.size ≤ 140737488351232) (hs : s.size ≤ 140737488351232) (hq : q.size ≤ 140737488351232) (ht : t.size ≤ 140737488351232) (k : Nat) :
    depotlaw05_NameStars.j1 (k + 2) a (fits (bs p) (bs s)) (fits (bs q) (bs t)) false p s q t = some true := by
  simp only [depotlaw05_NameStars.j1]
  rw [if_neg (by decide)]
  by_cases h1 : fits (bs p) (bs s) = true
  · rw [if_pos h1]
    by_cases h2 : fits (bs q) (bs t) = true
    · rw [if_pos h2]
      have z : (⟨#[42]⟩ : ByteArray).size = 1 := rfl
      simp only [size_app, z]
      rw [if_pos (by omega), if_pos (by omega), if_pos (by omega), if_pos (by omega), match_some _ _ (by simp only [size_app, z]; omega) (by simp only [size_app]; omega)]
      simp only [Option.bind_some]
      have e : fits (bs (p ++ (⟨#[42]⟩ : ByteArray) ++ q)) (bs (s ++ a ++ t)) = true := by
        simp only [bs_append]
        have e1 : bs (⟨#[42]⟩ : ByteArray) = [42] := rfl
        rw [e1]
        exact fits_both (fits_both h1 (fits_any _)) h2
      rw [e]
      exact j2 a ha k
    · rw [if_neg h2]
      exact j2 a ha k
  · rw [if_neg h1]
    exact j2 a ha k
theorem j0 (a p s q t : ByteArray) (ha : a.size ≤ 140737488351232) (hp : p.size ≤ 140737488351232) (hs : s.size ≤ 140737488351232) (hq : q.size ≤ 140737488351232) (ht : t.size ≤ 140737488351232) (k : Nat) :
    depotlaw05_NameStars.j0 (k + 3) a false p s q t = some true := by
  simp only [depotlaw05_NameStars.j0]
  rw [if_neg (by decide), match_some p s (by omega) (by omega), match_some q t (by omega) (by omega)]
  simp only [Option.bind_some]
  by_cases h1 : fits (bs p) (bs s) = true
  · rw [if_pos h1]
    by_cases h2 : fits (bs q) (bs t) = true
    · rw [if_pos h2, if_pos (by omega), if_pos (by omega), match_some _ _ (by rw [size_app]; omega) (by rw [size_app]; omega)]
      simp only [Option.bind_some, bs_append]
      rw [fits_both h1 h2]
      exact j1 a p s q t ha hp hs hq ht k
    · rw [if_neg h2]
      exact j1 a p s q t ha hp hs hq ht k
  · rw [if_neg h1]
    exact j1 a p s q t ha hp hs hq ht k
end Stars
open Stars in
theorem NameStars : depotlaw05_NameStars.Pure := by
  intro x m hw hg hm
  have h0 := hw x.f0.size (by simp)
  have h1 := hw x.f1.size (by simp)
  have h2 := hw x.f2.size (by simp)
  have h3 := hw x.f3.size (by simp)
  refine ⟨3, ?_⟩
  unfold depotlaw05_NameStars.f
  rw [Stars.match_some _ _ (by decide) (by decide), Stars.match_some _ _ (by decide) (by decide)]
  simp only [Option.bind_some]
  rw [if_pos (by decide)]
  exact j0 m x.f0 x.f1 x.f2 x.f3 hm h0 h1 h2 h3 0
end Go.Proofs.Ytabgpdpdgkgmbaa.Pure
