/- NameKeeps, the plain law: nothing is left but the bounds. -/
import Derived.Test.YtabgpdpdgkgmbaaDoorPdNameKeeps
import Derived.Test.YtabgpdpdgkgmbaaDoorNameBackPure
set_option linter.unusedVariables false
set_option linter.unusedSimpArgs false
namespace Go.Proofs.YtabgpdpdgkgmbaaDoor.Pure
open Go.RowKit Go.Proofs.YtabgpdpdgkgmbaaDoor.Q Go.Proofs.YtabgpdpdgkgmbaaDoorW.PrintWords Go.Proofs.YtabgpdpdgkgmbaaDoorW.PrintLast Go.Proofs.YtabgpdpdgkgmbaaDoor.Bytes Go.Proofs.YtabgpdpdgkgmbaaDoor.NamePure
theorem NameKeeps : depotlaw05_NameKeeps.Pure := by
  intro l a hl _ ha
  obtain ⟨hl1, _⟩ := row_len bytes_str hl
  unfold depotlaw05_NameKeeps.f
  exact if_pos ⟨hl1, by omega⟩
end Go.Proofs.YtabgpdpdgkgmbaaDoor.Pure
