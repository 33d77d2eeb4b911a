/- By a program of this session's: a plain Lean function for a Go function, and its contract. -/
import Derived.Test.YtnilogameaaooaaRows
import Derived.Test.YtnilogameaaooaaCWirePlays6
import Derived.WalkKit
import Derived.ProofKit
import Derived.OpenShut
import Derived.ShutString
import Derived.ChangeOld
import Derived.Below
import Derived.SizedLaws
import Derived.JoinedCond
import Derived.Deep.CondSized
set_option linter.unusedVariables false
set_option linter.unusedSimpArgs false
namespace Go.Proofs.Ytnilogameaaooaa.wirePlays
open Go.ChangeShapes Go.WideShapes Go.ChangeAt Go.RowKit Go.Joins Go.Proofs.Ytnilogameaaooaa.Q Go.Proofs.YtnilogameaaooaaW.PrintWords
open Go.ChangeMaps (open_string shut_string)
theorem own : ownKnob Try.prog.godebug = none := by kernel_rfl
theorem laidOut : laidOutB Try.prog = true := by kernel_rfl
set_option maxRecDepth 100000 in
theorem contract (H : Type) (enc : TypeId × Value → H) (W : World) (base : Nat) (args : Array Value) (ds gs : List (DataW H)) (before : List MemPlace)
    (hval0 : ∀ (j : Nat) t v, Try.f11.params[j]? = some t → args[j]? = some v → Value.okWide Try.prog W .any base t v)
    (hW : DataW.Whole enc Try.prog Try.f11.params.toList Rows.wirePlaysSpec.vars false W args.toList ds gs before)
    (hsz0 : (DataW.weightsEach Try.prog (Try.f11.params.toList ++ Rows.wirePlaysSpec.plain.varTypes Try.prog) (ds ++ gs)).all (· ≤ reachBytes) = true) (hkk : Rows.uptoSmall H (ds ++ gs) = true) :
    Calls Try.prog 11 args W fun e W' => ∃ v, e = .returned v ∧ Rows.wirePlaysSpec.post enc Try.prog Try.f11 false true false false W args v W' := by
  have hsz : (DataW.weightsEach Try.prog (Try.f11.params.toList ++ Rows.wirePlaysSpec.plain.varTypes Try.prog) (ds ++ gs)).all (· ≤ reachBytes) = true := hsz0
  have hval : ∀ (j : Nat) t v, Try.f11.params[j]? = some t → args[j]? = some v → Value.okWide Try.prog W .any base t v := hval0
  have hW' := hW
  obtain ⟨p, q, hA0, hV, rfl, hfz, hnd⟩ := hW
  have hA : DataW.TrodAll enc Try.prog W 0 (fun _ => true) true Try.f11.params.toList args.toList ds p := hA0
  rw [Try.params11] at hA hval hsz
  obtain ⟨v0, vs0, d0, ds0, p0, q0, hargs, rfl, rfl, h0, r0⟩ := trodAll_cons hA
  obtain ⟨v1, vs1, d1, ds1, p1, q1, rfl, rfl, rfl, h1, r1⟩ := trodAll_cons r0
  obtain ⟨v2, vs2, d2, ds2, p2, q2, rfl, rfl, rfl, h2, r2⟩ := trodAll_cons r1
  obtain ⟨rfl, rfl, rfl⟩ := trodAll_nil r2
  obtain rfl : args = #[v0, v1, v2] := by cases args; simp_all
  obtain ⟨rfl, rfl⟩ := trodVars_none hV
  obtain ⟨x0, rfl, rfl, rfl, y0⟩ := open_string Try.underlying9 (hval 0 9 v0 rfl rfl) h0
  have w0 : x0.size ≤ 140737488351232 := by
    have z := sized_string hsz (j := 0) (t := 9) rfl rfl
    rw [Array.length_toList] at z
    exact z
  obtain ⟨x1, rfl, rfl, rfl, w1⟩ := open_int Try.underlying3 (hval 1 3 v1 rfl rfl) h1
  have k2 := h2
  have lt2 : ∀ x ∈ p2, x.block < W.heap.size := by obtain ⟨m, hm⟩ := k2; exact DataW.trod_lt m _ _ _ hm
  obtain ⟨x2, hK2, hw2, hb2, hg2⟩ := Opens.arg (Opens.opens_slice Try.underlying64 (by kernel_rfl) (Opens.opens_iso (fun x : S66 => (x.f0, x.f1)) (fun p => (⟨p.1, p.2⟩ : S66)) (fun _ => rfl) (Opens.opens_struct Try.underlying66 (by kernel_rfl) (Opens.opensF_cons rfl (Opens.opens_bool Try.underlying4 (by kernel_rfl)) (Opens.opensF_one rfl (Opens.opens_string Try.underlying9 (by kernel_rfl))))))) h2
  have hr2 : ∀ n ∈ (((x2).length * Try.prog.bytesOf 66) :: (x2).flatMap (fun y8 => (([] : List Nat) ++ [((y8).f1).size]))), n ≤ 140737488351232 := Opens.reach hsz (j := 2) (t := 64) (dd := d2) rfl rfl hw2
  have hq2 : ((x2).length ≤ maxLen ∧ ∀ y8 ∈ x2, (True ∧ ((y8).f1).size ≤ maxLen)) := hg2
  have hB2 : (((x2).map (fun y8 => ((1 + (((y8).f1).size + 1)) + 1))).sum + 1) ≤ Rows.uptoBulk d2 := hb2
  obtain ⟨A2, n2, c2, rfl⟩ := okWide_slice Try.underlying64 (hval 2 64 v2 rfl rfl)
  obtain ⟨A2', c2', hcs2, hlc2, hC2⟩ := hK2
  have hcs2' : [Value.slice A2 n2 c2] = [.slice A2' x2.length c2'] := hcs2
  injection hcs2' with e2 _
  injection e2 with ea2 en2 ec2
  subst ea2 en2 ec2
  have hbk : Rows.uptoBulkAll [.lit (.string x0.data.toList), .lit (.int .i64 x1), d2] ≤ 1048576 := of_decide_eq_true hkk
  simp only [Rows.uptoBulkAll, Rows.uptoBulk, Array.length_toList] at hbk
  have hbound : ((x0).size + 1) + 1 + (((x2).map (fun y7 => ((1 + (((y7).f1).size + 1)) + 1))).sum + 1) ≤ 1048576 := by
    have s0 : x0.data.size = x0.size := rfl
    omega
  clear hA0 hval0 hsz0 hsz
  have hk := Pure.WirePlays x0 x1 x2 w0 w1 hr2 hq2 hbound
  refine (Q.depotlaw03_WirePlays.calls (x0) (x1) A2 c2 (x2) true W hC2 hlc2 hk).mono fun e W' ⟨he, hd⟩ => ?_
  subst he
  have bel : Below W.heap.size W W' := hd
  exact ⟨_, rfl, _, _, _, [], _, [], hW', trodAll_mk1 (shut_bool Try.underlying4 _), (trodAll_cons_mk (shut_string Try.underlying9 y0) (trodAll_cons_mk (shut_int Try.underlying3 w1) (trodAll_cons_mk (Below.trod laidOut (by kernel_rfl) (of_decide_eq_true (by kernel_rfl)) k2 bel lt2) trodAll_mk0))), rfl, bel.frame _, fun h => by cases h⟩
set_option maxRecDepth 100000 in
theorem lifted (os : Os) (started : os.Started) (H : Type) (enc : TypeId × Value → H) (F : Stop.Interp) :
    ReturnsInHanded {} Try.checked os 11 .any ((Rows.OpenSpec.upto Rows.wirePlaysSpec).pre6 enc Try.prog Try.f11 Rows.wirePlaysUptoRow.domain false) (((Rows.OpenSpec.upto Rows.wirePlaysSpec).at F).post enc Try.prog Try.f11 false true false false) := by
  refine returnsInHanded_of_cond_sized (C := Try.checked) (s := Rows.OpenSpec.upto Rows.wirePlaysSpec) (k := Rows.uptoSmall) rfl own started (by kernel_rfl) Try.func11
    (OpenSpec.witness (enc := enc) (C := Try.checked) (s := Rows.OpenSpec.upto Rows.wirePlaysSpec) (k := Rows.uptoSmall) rfl false ⟨#[], #[.string ByteArray.empty, .int .i64 0, .slice none 0 0], []⟩ 8 (by kernel_rfl) (by kernel_rfl) (by kernel_rfl) (by kernel_rfl)
      (x := ([.lit (.string []), .lit (.int .i64 0), .nil], [], [])) (by kernel_rfl) rfl (by kernel_rfl)) ?_
  intro W base args ds gs before hval hW _ hk hsz _
  exact contract H enc W base args ds gs before hval hW hsz hk
theorem over : Rows.wirePlaysUptoRow.holds Try.pinned (Rows.OpenSpec.upto Rows.wirePlaysSpec) :=
  OpenClaim.holds_of_cond 11 Try.f11 rfl rfl rfl rfl rfl rfl rfl ⟨rfl, rfl, rfl, rfl, rfl⟩ rfl rfl rfl rfl rfl (by kernel_rfl) Try.func11 (by kernel_rfl)
    (of_decide_eq_true (by kernel_rfl)) (by unfold Func.isWrapper; first | (rw [if_pos (by decide +kernel)]; kernel_rfl) | (rw [if_neg (by decide +kernel)]; exact ⟨rfl, rfl⟩))
    (fun os started H enc _ F => lifted os started H enc F)
theorem proved : Rows.WirePlaysUptoSaid := over
#print axioms proved
end Go.Proofs.Ytnilogameaaooaa.wirePlays
namespace Go.Proofs.Ytnilogameaaooaa
/-- The row, under a short name, for the claim. -/
theorem wirePlays_holds : Rows.WirePlaysUptoSaid := wirePlays.proved
end Go.Proofs.Ytnilogameaaooaa
