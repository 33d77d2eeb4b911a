/- The example that each law asks first. -/
import Derived.Test.YtabgpdpdgkgmbaaDoorNameJoinPure
import Derived.Test.YtabgpdpdgkgmbaaDoorQ22
set_option linter.unusedVariables false
set_option linter.unusedSimpArgs false
namespace Go.Proofs.YtabgpdpdgkgmbaaDoor.NamePure
open Go.RowKit Go.Proofs.YtabgpdpdgkgmbaaDoor.Q Go.Proofs.YtabgpdpdgkgmbaaDoor.Loop Go.Proofs.YtabgpdpdgkgmbaaDoorW.PrintWords Go.Proofs.YtabgpdpdgkgmbaaDoorW.PrintLast Go.Proofs.YtabgpdpdgkgmbaaDoor.Bytes
theorem awake_f (k : Nat) (hk : 10 ≤ k) : depotlaw05_awake.f k = some true := by
  unfold depotlaw05_awake.f
  have e1 : name_Split.f (⟨#[97, 47, 98, 46, 99]⟩ : ByteArray) = some ([⟨#[97]⟩, ⟨#[98, 46, 99]⟩], 0, 0) := by
    rw [split_f _ (by decide)]
    rw [if_neg (by decide)]
    have e2 : piecesOf (⟨#[97, 47, 98, 46, 99]⟩ : ByteArray) = [⟨#[97]⟩, ⟨#[98, 46, 99]⟩] := by rfl
    rw [e2, takeNames, if_neg (by decide), if_pos (by decide), takeNames, if_neg (by decide), if_pos (by decide), takeNames]
    rfl
  have e3 : name_Join.f k [(⟨#[97]⟩ : ByteArray), (⟨#[98, 46, 99]⟩ : ByteArray)] = some (⟨#[97, 47, 98, 46, 99]⟩, 0, 0) := by
    rw [join_f _ (by decide) _ (by simp; omega)]
    have e4 : jfault [(⟨#[97]⟩ : ByteArray), (⟨#[98, 46, 99]⟩ : ByteArray)] 0 = none := by decide
    unfold joinRes
    rw [e4]
    rfl
  rw [e1, e3]
  simp only [Option.bind_some, toList_bs]
  rfl
end Go.Proofs.YtabgpdpdgkgmbaaDoor.NamePure
