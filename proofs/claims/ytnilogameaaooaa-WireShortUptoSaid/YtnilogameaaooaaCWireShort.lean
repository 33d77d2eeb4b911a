/- By a program of this session's: a plain Lean function for a Go function, and its contract. -/
import Derived.Test.YtnilogameaaooaaRows
import Derived.Test.YtnilogameaaooaaCWireShort3
import Derived.Test.YtnilogameaaooaaCWireShort7
import Derived.WalkKit
import Derived.ProofKit
import Derived.OpenShut
import Derived.ShutString
import Derived.ChangeOld
import Derived.Below
import Derived.SizedLaws
import Derived.JoinedCond
import Derived.Deep.CondSized
set_option linter.unusedVariables false
set_option linter.unusedSimpArgs false
namespace Go.Proofs.Ytnilogameaaooaa.wireShort
open Go.ChangeShapes Go.WideShapes Go.ChangeAt Go.RowKit Go.Joins Go.Proofs.Ytnilogameaaooaa.Q Go.Proofs.YtnilogameaaooaaW.PrintWords
open Go.ChangeMaps (open_string shut_string)
theorem own : ownKnob Try.prog.godebug = none := by kernel_rfl
theorem laidOut : laidOutB Try.prog = true := by kernel_rfl
set_option maxRecDepth 100000 in
theorem contract (H : Type) (enc : TypeId × Value → H) (W : World) (base : Nat) (args : Array Value) (ds gs : List (DataW H)) (before : List MemPlace)
    (hval0 : ∀ (j : Nat) t v, Try.f7.params[j]? = some t → args[j]? = some v → Value.okWide Try.prog W .any base t v)
    (hW : DataW.Whole enc Try.prog Try.f7.params.toList Rows.wireShortSpec.vars false W args.toList ds gs before)
    (hsz0 : (DataW.weightsEach Try.prog (Try.f7.params.toList ++ Rows.wireShortSpec.plain.varTypes Try.prog) (ds ++ gs)).all (· ≤ reachBytes) = true) (hkk : Rows.uptoSmall H (ds ++ gs) = true) :
    Calls Try.prog 7 args W fun e W' => ∃ v, e = .returned v ∧ Rows.wireShortSpec.post enc Try.prog Try.f7 false true false false W args v W' := by
  have hsz : (DataW.weightsEach Try.prog (Try.f7.params.toList ++ Rows.wireShortSpec.plain.varTypes Try.prog) (ds ++ gs)).all (· ≤ reachBytes) = true := hsz0
  have hval : ∀ (j : Nat) t v, Try.f7.params[j]? = some t → args[j]? = some v → Value.okWide Try.prog W .any base t v := hval0
  have hW' := hW
  obtain ⟨p, q, hA0, hV, rfl, hfz, hnd⟩ := hW
  have hA : DataW.TrodAll enc Try.prog W 0 (fun _ => true) true Try.f7.params.toList args.toList ds p := hA0
  rw [Try.params7] at hA hval hsz
  obtain ⟨v0, vs0, d0, ds0, p0, q0, hargs, rfl, rfl, h0, r0⟩ := trodAll_cons hA
  obtain ⟨v1, vs1, d1, ds1, p1, q1, rfl, rfl, rfl, h1, r1⟩ := trodAll_cons r0
  obtain ⟨v2, vs2, d2, ds2, p2, q2, rfl, rfl, rfl, h2, r2⟩ := trodAll_cons r1
  obtain ⟨rfl, rfl, rfl⟩ := trodAll_nil r2
  obtain rfl : args = #[v0, v1, v2] := by cases args; simp_all
  obtain ⟨rfl, rfl⟩ := trodVars_none hV
  have k0 := h0
  have lt0 : ∀ x ∈ p0, x.block < W.heap.size := by obtain ⟨m, hm⟩ := k0; exact DataW.trod_lt m _ _ _ hm
  obtain ⟨x0, hK0, hw0, hb0, hg0⟩ := Opens.arg (Opens.opens_slice Try.underlying28 (by kernel_rfl) (Opens.opens_iso (fun x : S55 => (x.f0, x.f1, x.f2)) (fun p => (⟨p.1, p.2.1, p.2.2⟩ : S55)) (fun _ => rfl) (Opens.opens_struct Try.underlying55 (by kernel_rfl) (Opens.opensF_cons rfl (Opens.opens_bool Try.underlying4 (by kernel_rfl)) (Opens.opensF_cons rfl (Opens.opens_int Try.underlying22 (by kernel_rfl)) (Opens.opensF_one rfl (Opens.opens_string Try.underlying9 (by kernel_rfl)))))))) h0
  have hr0 : ∀ n ∈ (((x0).length * Try.prog.bytesOf 55) :: (x0).flatMap (fun y4 => (([] : List Nat) ++ (([] : List Nat) ++ [((y4).f2).size])))), n ≤ 140737488351232 := Opens.reach hsz (j := 0) (t := 28) (dd := d0) rfl rfl hw0
  have hq0 : ((x0).length ≤ maxLen ∧ ∀ y4 ∈ x0, (True ∧ ((Lit.int .u64 ((y4).f1)).wf = true ∧ ((y4).f2).size ≤ maxLen))) := hg0
  have hB0 : (((x0).map (fun y4 => ((1 + (1 + (((y4).f2).size + 1))) + 1))).sum + 1) ≤ Rows.uptoBulk d0 := hb0
  obtain ⟨A0, n0, c0, rfl⟩ := okWide_slice Try.underlying28 (hval 0 28 v0 rfl rfl)
  obtain ⟨A0', c0', hcs0, hlc0, hC0⟩ := hK0
  have hcs0' : [Value.slice A0 n0 c0] = [.slice A0' x0.length c0'] := hcs0
  injection hcs0' with e0 _
  injection e0 with ea0 en0 ec0
  subst ea0 en0 ec0
  obtain ⟨x1, rfl, rfl, rfl, w1⟩ := open_int Try.underlying3 (hval 1 3 v1 rfl rfl) h1
  obtain ⟨x2, rfl, rfl, rfl, w2⟩ := open_int Try.underlying5 (hval 2 5 v2 rfl rfl) h2
  have hbk : Rows.uptoBulkAll [d0, .lit (.int .i64 x1), .lit (.int .u8 x2)] ≤ 1048576 := of_decide_eq_true hkk
  simp only [Rows.uptoBulkAll, Rows.uptoBulk, Array.length_toList] at hbk
  have hbound : (((x0).map (fun y3 => ((1 + (1 + (((y3).f2).size + 1))) + 1))).sum + 1) + 1 + 1 ≤ 1048576 := by
    omega
  clear hA0 hval0 hsz0 hsz
  obtain ⟨k, hk⟩ := Pure.WireShort x0 x1 x2 hr0 hq0 w1 w2 hbound
  refine (Q.depotlaw03_WireShort.calls k A0 c0 (x0) (x1) (x2) true W hC0 hlc0 hk).mono fun e W' ⟨he, hd⟩ => ?_
  subst he
  have bel : Below W.heap.size W W' := hd
  exact ⟨_, rfl, _, _, _, [], _, [], hW', trodAll_mk1 (shut_bool Try.underlying4 _), (trodAll_cons_mk (Below.trod laidOut (by kernel_rfl) (of_decide_eq_true (by kernel_rfl)) k0 bel lt0) (trodAll_cons_mk (shut_int Try.underlying3 w1) (trodAll_cons_mk (shut_int Try.underlying5 w2) trodAll_mk0))), rfl, bel.frame _, fun h => by cases h⟩
set_option maxRecDepth 100000 in
theorem lifted (os : Os) (started : os.Started) (H : Type) (enc : TypeId × Value → H) (F : Stop.Interp) :
    ReturnsInHanded {} Try.checked os 7 .any ((Rows.OpenSpec.upto Rows.wireShortSpec).pre6 enc Try.prog Try.f7 Rows.wireShortUptoRow.domain false) (((Rows.OpenSpec.upto Rows.wireShortSpec).at F).post enc Try.prog Try.f7 false true false false) := by
  refine returnsInHanded_of_cond_sized (C := Try.checked) (s := Rows.OpenSpec.upto Rows.wireShortSpec) (k := Rows.uptoSmall) rfl own started (by kernel_rfl) Try.func7
    (OpenSpec.witness (enc := enc) (C := Try.checked) (s := Rows.OpenSpec.upto Rows.wireShortSpec) (k := Rows.uptoSmall) rfl false ⟨#[], #[.slice none 0 0, .int .i64 0, .int .u8 0], []⟩ 8 (by kernel_rfl) (by kernel_rfl) (by kernel_rfl) (by kernel_rfl)
      (x := ([.nil, .lit (.int .i64 0), .lit (.int .u8 0)], [], [])) (by kernel_rfl) rfl (by kernel_rfl)) ?_
  intro W base args ds gs before hval hW _ hk hsz _
  exact contract H enc W base args ds gs before hval hW hsz hk
theorem over : Rows.wireShortUptoRow.holds Try.pinned (Rows.OpenSpec.upto Rows.wireShortSpec) :=
  OpenClaim.holds_of_cond 7 Try.f7 rfl rfl rfl rfl rfl rfl rfl ⟨rfl, rfl, rfl, rfl, rfl⟩ rfl rfl rfl rfl rfl (by kernel_rfl) Try.func7 (by kernel_rfl)
    (of_decide_eq_true (by kernel_rfl)) (by unfold Func.isWrapper; first | (rw [if_pos (by decide +kernel)]; kernel_rfl) | (rw [if_neg (by decide +kernel)]; exact ⟨rfl, rfl⟩))
    (fun os started H enc _ F => lifted os started H enc F)
theorem proved : Rows.WireShortUptoSaid := over
#print axioms proved
end Go.Proofs.Ytnilogameaaooaa.wireShort
namespace Go.Proofs.Ytnilogameaaooaa
/-- The row, under a short name, for the claim. -/
theorem wireShort_holds : Rows.WireShortUptoSaid := wireShort.proved
end Go.Proofs.Ytnilogameaaooaa
