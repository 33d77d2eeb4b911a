/- By a program of this session's: a plain Lean function for a Go function, and its contract. -/
import Derived.Test.YtabgpdpdgkgmbaaRows
import Derived.Test.YtabgpdpdgkgmbaaQ9
import Derived.Test.YtabgpdpdgkgmbaaPureNameRises
import Derived.Test.YtabgpdpdgkgmbaaOpens
import Derived.WalkKit
import Derived.ProofKit
import Derived.OpenShut
import Derived.ShutString
import Derived.ChangeOld
import Derived.Below
import Derived.SizedLaws
import Derived.JoinedCond
import Derived.Deep.CondSized
set_option linter.unusedVariables false
set_option linter.unusedSimpArgs false
namespace Go.Proofs.Ytabgpdpdgkgmbaa.nameRises
open Go.ChangeShapes Go.WideShapes Go.ChangeAt Go.RowKit Go.Joins Go.Proofs.Ytabgpdpdgkgmbaa.Q Go.Proofs.YtabgpdpdgkgmbaaW.PrintWords
open Go.ChangeMaps (open_string shut_string)
theorem own : ownKnob Try.prog.godebug = none := by kernel_rfl
theorem laidOut : laidOutB Try.prog = true := by kernel_rfl
theorem contract (H : Type) (enc : TypeId × Value → H) (W : World) (base : Nat) (args : Array Value) (ds gs : List (DataW H)) (before : List MemPlace)
    (hval0 : ∀ (j : Nat) t v, Try.f4.params[j]? = some t → args[j]? = some v → Value.okWide Try.prog W .any base t v)
    (hW : DataW.Whole enc Try.prog Try.f4.params.toList Rows.nameRisesSpec.vars false W args.toList ds gs before)
    (hsz0 : (DataW.weightsEach Try.prog (Try.f4.params.toList ++ Rows.nameRisesSpec.plain.varTypes Try.prog) (ds ++ gs)).all (· ≤ reachBytes) = true) :
    Calls Try.prog 4 args W fun e W' => ∃ v, e = .returned v ∧ Rows.nameRisesSpec.post enc Try.prog Try.f4 false true false false W args v W' := by
  have hsz : (DataW.weightsEach Try.prog (Try.f4.params.toList ++ Rows.nameRisesSpec.plain.varTypes Try.prog) (ds ++ gs)).all (· ≤ reachBytes) = true := hsz0
  have hval : ∀ (j : Nat) t v, Try.f4.params[j]? = some t → args[j]? = some v → Value.okWide Try.prog W .any base t v := hval0
  have hW' := hW
  obtain ⟨p, q, hA0, hV, rfl, hfz, hnd⟩ := hW
  have hA : DataW.TrodAll enc Try.prog W 0 (fun _ => true) true Try.f4.params.toList args.toList ds p := hA0
  rw [Try.params4] at hA hval hsz
  obtain ⟨v0, vs0, d0, ds0, p0, q0, hargs, rfl, rfl, h0, r0⟩ := trodAll_cons hA
  obtain ⟨rfl, rfl, rfl⟩ := trodAll_nil r0
  obtain rfl : args = #[v0] := by cases args; simp_all
  obtain ⟨rfl, rfl⟩ := trodVars_none hV
  have k0 := h0
  have lt0 : ∀ x ∈ p0, x.block < W.heap.size := by obtain ⟨m, hm⟩ := k0; exact DataW.trod_lt m _ _ _ hm
  obtain ⟨x0, hK0, hw0, hb0, hg0⟩ := Opens.arg (Opens.opens_slice Try.underlying23 (by kernel_rfl) (Opens.opens_string Try.underlying9 (by kernel_rfl))) h0
  have hr0 : ∀ n ∈ (((x0).length * Try.prog.bytesOf 9) :: (x0).flatMap (fun y2 => [(y2).size])), n ≤ 140737488351232 := Opens.reach hsz (j := 0) (t := 23) (dd := d0) rfl rfl hw0
  have hq0 : ((x0).length ≤ maxLen ∧ ∀ y2 ∈ x0, (y2).size ≤ maxLen) := hg0
  obtain ⟨A0, n0, c0, rfl⟩ := okWide_slice Try.underlying23 (hval 0 23 v0 rfl rfl)
  obtain ⟨A0', c0', hcs0, hlc0, hC0⟩ := hK0
  have hcs0' : [Value.slice A0 n0 c0] = [.slice A0' x0.length c0'] := hcs0
  injection hcs0' with e0 _
  injection e0 with ea0 en0 ec0
  subst ea0 en0 ec0
  clear hA0 hval0 hsz0 hsz
  obtain ⟨k, hk⟩ := Pure.NameRises x0 hr0 hq0
  refine (Q.depotlaw05_NameRises.calls k A0 c0 (x0) true W hC0 hlc0 hk).mono fun e W' ⟨he, hd⟩ => ?_
  subst he
  have bel : Below W.heap.size W W' := hd
  exact ⟨_, rfl, _, _, _, [], _, [], hW', trodAll_mk1 (shut_bool Try.underlying4 _), (trodAll_cons_mk (Below.trod laidOut (by kernel_rfl) (of_decide_eq_true (by kernel_rfl)) k0 bel lt0) trodAll_mk0), rfl, bel.frame _, fun h => by cases h⟩
set_option maxRecDepth 100000 in
theorem lifted (os : Os) (started : os.Started) (H : Type) (enc : TypeId × Value → H) :
    ReturnsInHanded {} Try.checked os 4 .any (Rows.nameRisesSpec.pre6 enc Try.prog Try.f4 Rows.nameRisesRow.domain false) (Rows.nameRisesSpec.post enc Try.prog Try.f4 false true false false) := by
  refine returnsInHanded_of_change_sized (C := Try.checked) own started (by kernel_rfl) Try.func4
    (ChangeSpec.witness6 (enc := enc) (C := Try.checked) false ⟨#[], #[.slice none 0 0], []⟩ 8 (by kernel_rfl) (by kernel_rfl) (by kernel_rfl) (by kernel_rfl)) ?_
  intro W base args ds gs before hval hW _ hsz _
  exact contract H enc W base args ds gs before hval hW hsz
theorem over : Rows.nameRisesRow.holds Try.pinned (OpenSpec.ofChange Rows.nameRisesSpec) :=
  OpenClaim.holds_of_wide 4 Try.f4 rfl rfl rfl rfl rfl rfl rfl ⟨rfl, rfl, rfl, rfl, rfl⟩ rfl rfl rfl rfl rfl (by kernel_rfl) Try.func4 (by kernel_rfl)
    (of_decide_eq_true (by kernel_rfl)) (by unfold Func.isWrapper; first | (rw [if_pos (by decide +kernel)]; kernel_rfl) | (rw [if_neg (by decide +kernel)]; exact ⟨rfl, rfl⟩))
    (fun os started H enc _ => lifted os started H enc)
theorem proved : Rows.NameRisesSaid := over
#print axioms proved
end Go.Proofs.Ytabgpdpdgkgmbaa.nameRises
namespace Go.Proofs.Ytabgpdpdgkgmbaa
/-- The row, under a short name, for the claim. -/
theorem nameRises_holds : Rows.NameRisesSaid := nameRises.proved
end Go.Proofs.Ytabgpdpdgkgmbaa
