/- By a program of this session's: a plain Lean function for a Go function, and its contract. -/
import Derived.Test.YtnilogameaaooaaRows
import Derived.Test.YtnilogameaaooaaCWireChunks3
import Derived.Test.YtnilogameaaooaaCWireChunks5
import Derived.WalkKit
import Derived.ProofKit
import Derived.OpenShut
import Derived.ShutString
import Derived.ChangeOld
import Derived.Below
import Derived.SizedLaws
import Derived.JoinedCond
import Derived.Deep.CondSized
set_option linter.unusedVariables false
set_option linter.unusedSimpArgs false
namespace Go.Proofs.Ytnilogameaaooaa.wireChunks
open Go.ChangeShapes Go.WideShapes Go.ChangeAt Go.RowKit Go.Joins Go.Proofs.Ytnilogameaaooaa.Q Go.Proofs.YtnilogameaaooaaW.PrintWords
open Go.ChangeMaps (open_string shut_string)
theorem own : ownKnob Try.prog.godebug = none := by kernel_rfl
theorem laidOut : laidOutB Try.prog = true := by kernel_rfl
set_option maxRecDepth 100000 in
theorem contract (H : Type) (enc : TypeId × Value → H) (W : World) (base : Nat) (args : Array Value) (ds gs : List (DataW H)) (before : List MemPlace)
    (hval0 : ∀ (j : Nat) t v, Try.f10.params[j]? = some t → args[j]? = some v → Value.okWide Try.prog W .any base t v)
    (hW : DataW.Whole enc Try.prog Try.f10.params.toList Rows.wireChunksSpec.vars false W args.toList ds gs before)
    (hsz0 : (DataW.weightsEach Try.prog (Try.f10.params.toList ++ Rows.wireChunksSpec.plain.varTypes Try.prog) (ds ++ gs)).all (· ≤ reachBytes) = true) (hkk : Rows.uptoSmall H (ds ++ gs) = true) :
    Calls Try.prog 10 args W fun e W' => ∃ v, e = .returned v ∧ Rows.wireChunksSpec.post enc Try.prog Try.f10 false true false false W args v W' := by
  have hsz : (DataW.weightsEach Try.prog (Try.f10.params.toList ++ Rows.wireChunksSpec.plain.varTypes Try.prog) (ds ++ gs)).all (· ≤ reachBytes) = true := hsz0
  have hval : ∀ (j : Nat) t v, Try.f10.params[j]? = some t → args[j]? = some v → Value.okWide Try.prog W .any base t v := hval0
  have hW' := hW
  obtain ⟨p, q, hA0, hV, rfl, hfz, hnd⟩ := hW
  have hA : DataW.TrodAll enc Try.prog W 0 (fun _ => true) true Try.f10.params.toList args.toList ds p := hA0
  rw [Try.params10] at hA hval hsz
  obtain ⟨v0, vs0, d0, ds0, p0, q0, hargs, rfl, rfl, h0, r0⟩ := trodAll_cons hA
  obtain ⟨rfl, rfl, rfl⟩ := trodAll_nil r0
  obtain rfl : args = #[v0] := by cases args; simp_all
  obtain ⟨rfl, rfl⟩ := trodVars_none hV
  have k0 := h0
  have lt0 : ∀ x ∈ p0, x.block < W.heap.size := by obtain ⟨m, hm⟩ := k0; exact DataW.trod_lt m _ _ _ hm
  obtain ⟨x0, hK0, hw0, hb0, hg0⟩ := Opens.arg (Opens.opens_iso (fun x : S60 => (x.f0, x.f1, x.f2, x.f3)) (fun p => (⟨p.1, p.2.1, p.2.2.1, p.2.2.2⟩ : S60)) (fun _ => rfl) (Opens.opens_struct Try.underlying60 (by kernel_rfl) (Opens.opensF_cons rfl (Opens.opens_string Try.underlying9 (by kernel_rfl)) (Opens.opensF_cons rfl (Opens.opens_string Try.underlying9 (by kernel_rfl)) (Opens.opensF_cons rfl (Opens.opens_int Try.underlying3 (by kernel_rfl)) (Opens.opensF_one rfl (Opens.opens_slice Try.underlying58 (by kernel_rfl) (Opens.opens_int Try.underlying3 (by kernel_rfl))))))))) h0
  have hr0 : ∀ n ∈ ([((x0).f0).size] ++ ([((x0).f1).size] ++ (([] : List Nat) ++ ((((x0).f3).length * Try.prog.bytesOf 3) :: ((x0).f3).flatMap (fun y6 => ([] : List Nat)))))), n ≤ 140737488351232 := Opens.reach hsz (j := 0) (t := 60) (dd := d0) rfl rfl hw0
  have hq0 : (((x0).f0).size ≤ maxLen ∧ (((x0).f1).size ≤ maxLen ∧ ((Lit.int .i64 ((x0).f2)).wf = true ∧ (((x0).f3).length ≤ maxLen ∧ ∀ y6 ∈ (x0).f3, (Lit.int .i64 (y6)).wf = true)))) := hg0
  have hB0 : (((((x0).f0).size + 1) + ((((x0).f1).size + 1) + (1 + ((((x0).f3).map (fun y6 => 1)).sum + 1)))) + 1) ≤ Rows.uptoBulk d0 := hb0
  obtain ⟨cs0, rfl, hsz0⟩ := okWide_struct Try.underlying60 (hval 0 60 v0 rfl rfl)
  obtain ⟨L0, hL0⟩ : ∃ L, L = cs0.toList := ⟨_, rfl⟩
  have hK0' : (k60).K W x0 cs0.toList := hK0
  rw [← hL0] at hK0'
  obtain ⟨_, _, rfl, rfl, ⟨_, _, rfl, rfl, ⟨_, _, rfl, rfl, ⟨A0_3, c0_3, rfl, hlc0_3, hC0_3⟩⟩⟩⟩ := hK0'
  obtain rfl : cs0 = #[.string x0.f0, .string x0.f1, .int .i64 x0.f2, .slice A0_3 x0.f3.length c0_3] := Array.toList_inj.1 hL0.symm
  have hbk : Rows.uptoBulkAll [d0] ≤ 1048576 := of_decide_eq_true hkk
  simp only [Rows.uptoBulkAll, Rows.uptoBulk, Array.length_toList] at hbk
  have hbound : (((((x0).f0).size + 1) + ((((x0).f1).size + 1) + (1 + ((((x0).f3).map (fun y5 => 1)).sum + 1)))) + 1) ≤ 1048576 := by
    omega
  clear hA0 hval0 hsz0 hsz
  obtain ⟨k, hk⟩ := Pure.WireChunks x0 hr0 hq0 hbound
  refine (Q.depotlaw03_WireChunks.calls k (x0.f0) (x0.f1) (x0.f2) A0_3 c0_3 (x0.f3) true W hC0_3 hlc0_3 hk).mono fun e W' ⟨he, hd⟩ => ?_
  subst he
  have bel : Below W.heap.size W W' := hd
  exact ⟨_, rfl, _, _, _, [], _, [], hW', trodAll_mk1 (shut_bool Try.underlying4 _), (trodAll_cons_mk (Below.trod laidOut (by kernel_rfl) (of_decide_eq_true (by kernel_rfl)) k0 bel lt0) trodAll_mk0), rfl, bel.frame _, fun h => by cases h⟩
set_option maxRecDepth 100000 in
theorem lifted (os : Os) (started : os.Started) (H : Type) (enc : TypeId × Value → H) (F : Stop.Interp) :
    ReturnsInHanded {} Try.checked os 10 .any ((Rows.OpenSpec.upto Rows.wireChunksSpec).pre6 enc Try.prog Try.f10 Rows.wireChunksUptoRow.domain false) (((Rows.OpenSpec.upto Rows.wireChunksSpec).at F).post enc Try.prog Try.f10 false true false false) := by
  refine returnsInHanded_of_cond_sized (C := Try.checked) (s := Rows.OpenSpec.upto Rows.wireChunksSpec) (k := Rows.uptoSmall) rfl own started (by kernel_rfl) Try.func10
    (OpenSpec.witness (enc := enc) (C := Try.checked) (s := Rows.OpenSpec.upto Rows.wireChunksSpec) (k := Rows.uptoSmall) rfl false ⟨#[], #[.agg #[.string ByteArray.empty, .string ByteArray.empty, .int .i64 0, .slice none 0 0]], []⟩ 8 (by kernel_rfl) (by kernel_rfl) (by kernel_rfl) (by kernel_rfl)
      (x := ([.agg [.lit (.string []), .lit (.string []), .lit (.int .i64 0), .nil]], [], [])) (by kernel_rfl) rfl (by kernel_rfl)) ?_
  intro W base args ds gs before hval hW _ hk hsz _
  exact contract H enc W base args ds gs before hval hW hsz hk
theorem over : Rows.wireChunksUptoRow.holds Try.pinned (Rows.OpenSpec.upto Rows.wireChunksSpec) :=
  OpenClaim.holds_of_cond 10 Try.f10 rfl rfl rfl rfl rfl rfl rfl ⟨rfl, rfl, rfl, rfl, rfl⟩ rfl rfl rfl rfl rfl (by kernel_rfl) Try.func10 (by kernel_rfl)
    (of_decide_eq_true (by kernel_rfl)) (by unfold Func.isWrapper; first | (rw [if_pos (by decide +kernel)]; kernel_rfl) | (rw [if_neg (by decide +kernel)]; exact ⟨rfl, rfl⟩))
    (fun os started H enc _ F => lifted os started H enc F)
theorem proved : Rows.WireChunksUptoSaid := over
#print axioms proved
end Go.Proofs.Ytnilogameaaooaa.wireChunks
namespace Go.Proofs.Ytnilogameaaooaa
/-- The row, under a short name, for the claim. -/
theorem wireChunks_holds : Rows.WireChunksUptoSaid := wireChunks.proved
end Go.Proofs.Ytnilogameaaooaa
