/- strings.Compare by the library's own contract. -/
import Derived.Test.YtabgpdpdgkgmbaaQ0
import Derived.Test.YtabgpdpdgkgmbaaBytes
import Derived.Test.YtabgpdpdgkgmbaaShelf
namespace Go.Proofs.Ytabgpdpdgkgmbaa.Q
open Go.RowKit Go.Proofs.YtabgpdpdgkgmbaaW.PrintWords Go.Proofs.YtabgpdpdgkgmbaaW.PrintLast Go.Proofs.YtabgpdpdgkgmbaaW.PrintMore Go.Proofs.Ytabgpdpdgkgmbaa.Bytes
set_option linter.unusedVariables false
set_option linter.unusedSimpArgs false

def strings_Compare.f (a0 : ByteArray) (a1 : ByteArray) : Option (Int) := some (Lib.compareBytes a0.data.toList a1.data.toList)
theorem strings_Compare.calls (a0 : ByteArray) (a1 : ByteArray) (r : Int) (w : World) (h : strings_Compare.f a0 a1 = some r) :
    Calls Try.prog 18 #[.string a0, .string a1] w fun e w' => e = .returned (.int .i64 r) ∧ Drawn0 w w' := by
  unfold strings_Compare.f at h
  obtain rfl := Option.some.inj h
  refine (Try.strings_Compare a0 a1 w).mono ?_
  rintro e w' ⟨rfl, rfl⟩
  exact ⟨rfl, Drawn0.refl _⟩
end Go.Proofs.Ytabgpdpdgkgmbaa.Q
