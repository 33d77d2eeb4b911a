/- depotlaw05.NameChecks answers true for every two names: Check and Compare are the document's. No condition. -/
import Derived.Test.YtabgpdpdgkgmbaaQ27
import Derived.Test.YtabgpdpdgkgmbaaNamePure
set_option linter.unusedVariables false
set_option linter.unusedSimpArgs false
namespace Go.Proofs.Ytabgpdpdgkgmbaa.Pure
open Go.RowKit Go.Proofs.Ytabgpdpdgkgmbaa.Q Go.Proofs.YtabgpdpdgkgmbaaW.PrintWords Go.Proofs.YtabgpdpdgkgmbaaW.PrintLast Go.Proofs.Ytabgpdpdgkgmbaa.Bytes Go.Proofs.Ytabgpdpdgkgmbaa.NamePure

theorem NameChecks : depotlaw05_NameChecks.Pure := by
  intro a b ha hb
  rw [size_bs] at ha hb
  refine ⟨3 * (bs a).length + 3 * (bs b).length + 10, ?_⟩
  unfold depotlaw05_NameChecks.f
  rw [name_check, name_compare]
  have e1 : chk (bs (⟨#[46, 46]⟩ : ByteArray)) = 52 := by decide
  have e2 : Lib.compareBytes (bs (⟨#[97]⟩ : ByteArray)) (bs (⟨#[98]⟩ : ByteArray)) = -1 := by decide
  rw [e1, e2]
  simp only [Option.bind_some]
  rw [if_pos trivial]
  have e3 : ((-1 : Int) != -1) = false := by decide
  rw [e3]
  simp only [depotlaw05_NameChecks.j0]
  rw [if_neg (by decide), name_check, name_check, ref_check a ha _ (by omega), ref_check b hb _ (by omega), name_compare, ref_compare a b ha hb _ (by omega)]
  simp only [Option.bind_some]
  rw [if_pos trivial, if_pos trivial]
  simp
end Go.Proofs.Ytabgpdpdgkgmbaa.Pure
