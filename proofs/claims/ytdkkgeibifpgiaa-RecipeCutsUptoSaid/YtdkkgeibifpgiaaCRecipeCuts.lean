/- By a program of this session's: a plain Lean function for a Go function, and its contract. -/
import Derived.Test.YtdkkgeibifpgiaaRows
import Derived.Test.YtdkkgeibifpgiaaCRecipeCuts2
import Derived.Test.YtdkkgeibifpgiaaCRecipeCuts3
import Derived.WalkKit
import Derived.ProofKit
import Derived.OpenShut
import Derived.ShutString
import Derived.ChangeOld
import Derived.Below
import Derived.SizedLaws
import Derived.JoinedCond
import Derived.Deep.CondSized
set_option linter.unusedVariables false
set_option linter.unusedSimpArgs false
namespace Go.Proofs.Ytdkkgeibifpgiaa.recipeCuts
open Go.ChangeShapes Go.WideShapes Go.ChangeAt Go.RowKit Go.Joins Go.Proofs.Ytdkkgeibifpgiaa.Q Go.Proofs.YtdkkgeibifpgiaaW.PrintWords
open Go.ChangeMaps (open_string shut_string)
theorem own : ownKnob Try.prog.godebug = none := by kernel_rfl
theorem laidOut : laidOutB Try.prog = true := by kernel_rfl
set_option maxRecDepth 100000 in
theorem contract (H : Type) (enc : TypeId × Value → H) (W : World) (base : Nat) (args : Array Value) (ds gs : List (DataW H)) (before : List MemPlace)
    (hval0 : ∀ (j : Nat) t v, Try.f7.params[j]? = some t → args[j]? = some v → Value.okWide Try.prog W .any base t v)
    (hW : DataW.Whole enc Try.prog Try.f7.params.toList Rows.recipeCutsSpec.vars false W args.toList ds gs before)
    (hsz0 : (DataW.weightsEach Try.prog (Try.f7.params.toList ++ Rows.recipeCutsSpec.plain.varTypes Try.prog) (ds ++ gs)).all (· ≤ reachBytes) = true) (hkk : Rows.uptoSmall H (ds ++ gs) = true) :
    Calls Try.prog 7 args W fun e W' => ∃ v, e = .returned v ∧ Rows.recipeCutsSpec.post enc Try.prog Try.f7 false true false false W args v W' := by
  have hsz : (DataW.weightsEach Try.prog (Try.f7.params.toList ++ Rows.recipeCutsSpec.plain.varTypes Try.prog) (ds ++ gs)).all (· ≤ reachBytes) = true := hsz0
  have hval : ∀ (j : Nat) t v, Try.f7.params[j]? = some t → args[j]? = some v → Value.okWide Try.prog W .any base t v := hval0
  have hW' := hW
  obtain ⟨p, q, hA0, hV, rfl, hfz, hnd⟩ := hW
  have hA : DataW.TrodAll enc Try.prog W 0 (fun _ => true) true Try.f7.params.toList args.toList ds p := hA0
  rw [Try.params7] at hA hval hsz
  obtain ⟨v0, vs0, d0, ds0, p0, q0, hargs, rfl, rfl, h0, r0⟩ := trodAll_cons hA
  obtain ⟨v1, vs1, d1, ds1, p1, q1, rfl, rfl, rfl, h1, r1⟩ := trodAll_cons r0
  obtain ⟨v2, vs2, d2, ds2, p2, q2, rfl, rfl, rfl, h2, r2⟩ := trodAll_cons r1
  obtain ⟨rfl, rfl, rfl⟩ := trodAll_nil r2
  obtain rfl : args = #[v0, v1, v2] := by cases args; simp_all
  obtain ⟨rfl, rfl⟩ := trodVars_none hV
  have k0 := h0
  have lt0 : ∀ x ∈ p0, x.block < W.heap.size := by obtain ⟨m, hm⟩ := k0; exact DataW.trod_lt m _ _ _ hm
  obtain ⟨x0, hK0, hw0, hb0, hg0⟩ := Opens.arg (Opens.opens_iso (fun x : S26 => (x.f0, x.f1, x.f2)) (fun p => (⟨p.1, p.2.1, p.2.2⟩ : S26)) (fun _ => rfl) (Opens.opens_struct Try.underlying26 (by kernel_rfl) (Opens.opensF_cons rfl (Opens.opens_string Try.underlying9 (by kernel_rfl)) (Opens.opensF_cons rfl (Opens.opens_slice Try.underlying23 (by kernel_rfl) (Opens.opens_string Try.underlying9 (by kernel_rfl))) (Opens.opensF_one rfl (Opens.opens_slice Try.underlying24 (by kernel_rfl) (Opens.opens_iso (fun x : S47 => (x.f0, x.f1)) (fun p => (⟨p.1, p.2⟩ : S47)) (fun _ => rfl) (Opens.opens_struct Try.underlying47 (by kernel_rfl) (Opens.opensF_cons rfl (Opens.opens_string Try.underlying9 (by kernel_rfl)) (Opens.opensF_one rfl (Opens.opens_slice Try.underlying23 (by kernel_rfl) (Opens.opens_string Try.underlying9 (by kernel_rfl))))))))))))) h0
  have hr0 : ∀ n ∈ ([((x0).f0).size] ++ (((((x0).f1).length * Try.prog.bytesOf 9) :: ((x0).f1).flatMap (fun y16 => [(y16).size])) ++ ((((x0).f2).length * Try.prog.bytesOf 47) :: ((x0).f2).flatMap (fun y17 => ([((y17).f0).size] ++ ((((y17).f1).length * Try.prog.bytesOf 9) :: ((y17).f1).flatMap (fun y18 => [(y18).size]))))))), n ≤ 140737488351232 := Opens.reach hsz (j := 0) (t := 26) (dd := d0) rfl rfl hw0
  have hq0 : (((x0).f0).size ≤ maxLen ∧ ((((x0).f1).length ≤ maxLen ∧ ∀ y16 ∈ (x0).f1, (y16).size ≤ maxLen) ∧ (((x0).f2).length ≤ maxLen ∧ ∀ y17 ∈ (x0).f2, (((y17).f0).size ≤ maxLen ∧ (((y17).f1).length ≤ maxLen ∧ ∀ y18 ∈ (y17).f1, (y18).size ≤ maxLen))))) := hg0
  have hB0 : (((((x0).f0).size + 1) + (((((x0).f1).map (fun y16 => ((y16).size + 1))).sum + 1) + ((((x0).f2).map (fun y17 => (((((y17).f0).size + 1) + ((((y17).f1).map (fun y18 => ((y18).size + 1))).sum + 1)) + 1))).sum + 1))) + 1) ≤ Rows.uptoBulk d0 := hb0
  obtain ⟨cs0, rfl, hsz0⟩ := okWide_struct Try.underlying26 (hval 0 26 v0 rfl rfl)
  obtain ⟨L0, hL0⟩ : ∃ L, L = cs0.toList := ⟨_, rfl⟩
  have hK0' : (k26).K W x0 cs0.toList := hK0
  rw [← hL0] at hK0'
  obtain ⟨_, _, rfl, rfl, ⟨_, _, rfl, ⟨A0_1, c0_1, rfl, hlc0_1, hC0_1⟩, ⟨A0_2, c0_2, rfl, hlc0_2, hC0_2⟩⟩⟩ := hK0'
  obtain rfl : cs0 = #[.string x0.f0, .slice A0_1 x0.f1.length c0_1, .slice A0_2 x0.f2.length c0_2] := Array.toList_inj.1 hL0.symm
  obtain ⟨x1, rfl, rfl, rfl, w1⟩ := open_int Try.underlying3 (hval 1 3 v1 rfl rfl) h1
  obtain ⟨x2, rfl, rfl, rfl, y2⟩ := open_string Try.underlying9 (hval 2 9 v2 rfl rfl) h2
  have w2 : x2.size ≤ 140737488351232 := by
    have z := sized_string hsz (j := 2) (t := 9) rfl rfl
    rw [Array.length_toList] at z
    exact z
  have hbk : Rows.uptoBulkAll [d0, .lit (.int .i64 x1), .lit (.string x2.data.toList)] ≤ 1048576 := of_decide_eq_true hkk
  simp only [Rows.uptoBulkAll, Rows.uptoBulk, Array.length_toList] at hbk
  have hbound : (((((x0).f0).size + 1) + (((((x0).f1).map (fun y13 => ((y13).size + 1))).sum + 1) + ((((x0).f2).map (fun y14 => (((((y14).f0).size + 1) + ((((y14).f1).map (fun y15 => ((y15).size + 1))).sum + 1)) + 1))).sum + 1))) + 1) + 1 + ((x2).size + 1) ≤ 1048576 := by
    have s2 : x2.data.size = x2.size := rfl
    omega
  clear hA0 hval0 hsz0 hsz
  have hk := Pure.RecipeCuts x0 x1 x2 hr0 hq0 w1 w2 hbound
  refine (Q.depotlaw21_RecipeCuts.calls (x0.f0) A0_1 c0_1 (x0.f1) A0_2 c0_2 (x0.f2) (x1) (x2) true W hC0_1 hlc0_1 hC0_2 hlc0_2 hk).mono fun e W' ⟨he, hd⟩ => ?_
  subst he
  have bel : Below W.heap.size W W' := hd
  exact ⟨_, rfl, _, _, _, [], _, [], hW', trodAll_mk1 (shut_bool Try.underlying4 _), (trodAll_cons_mk (Below.trod laidOut (by kernel_rfl) (of_decide_eq_true (by kernel_rfl)) k0 bel lt0) (trodAll_cons_mk (shut_int Try.underlying3 w1) (trodAll_cons_mk (shut_string Try.underlying9 y2) trodAll_mk0))), rfl, bel.frame _, fun h => by cases h⟩
set_option maxRecDepth 100000 in
theorem lifted (os : Os) (started : os.Started) (H : Type) (enc : TypeId × Value → H) (F : Stop.Interp) :
    ReturnsInHanded {} Try.checked os 7 .any ((Rows.OpenSpec.upto Rows.recipeCutsSpec).pre6 enc Try.prog Try.f7 Rows.recipeCutsUptoRow.domain false) (((Rows.OpenSpec.upto Rows.recipeCutsSpec).at F).post enc Try.prog Try.f7 false true false false) := by
  refine returnsInHanded_of_cond_sized (C := Try.checked) (s := Rows.OpenSpec.upto Rows.recipeCutsSpec) (k := Rows.uptoSmall) rfl own started (by kernel_rfl) Try.func7
    (OpenSpec.witness (enc := enc) (C := Try.checked) (s := Rows.OpenSpec.upto Rows.recipeCutsSpec) (k := Rows.uptoSmall) rfl false ⟨#[], #[.agg #[.string ByteArray.empty, .slice none 0 0, .slice none 0 0], .int .i64 0, .string ByteArray.empty], []⟩ 8 (by kernel_rfl) (by kernel_rfl) (by kernel_rfl) (by kernel_rfl)
      (x := ([.agg [.lit (.string []), .nil, .nil], .lit (.int .i64 0), .lit (.string [])], [], [])) (by kernel_rfl) rfl (by kernel_rfl)) ?_
  intro W base args ds gs before hval hW _ hk hsz _
  exact contract H enc W base args ds gs before hval hW hsz hk
theorem over : Rows.recipeCutsUptoRow.holds Try.pinned (Rows.OpenSpec.upto Rows.recipeCutsSpec) :=
  OpenClaim.holds_of_cond 7 Try.f7 rfl rfl rfl rfl rfl rfl rfl ⟨rfl, rfl, rfl, rfl, rfl⟩ rfl rfl rfl rfl rfl (by kernel_rfl) Try.func7 (by kernel_rfl)
    (of_decide_eq_true (by kernel_rfl)) (by unfold Func.isWrapper; first | (rw [if_pos (by decide +kernel)]; kernel_rfl) | (rw [if_neg (by decide +kernel)]; exact ⟨rfl, rfl⟩))
    (fun os started H enc _ F => lifted os started H enc F)
theorem proved : Rows.RecipeCutsUptoSaid := over
#print axioms proved
end Go.Proofs.Ytdkkgeibifpgiaa.recipeCuts
namespace Go.Proofs.Ytdkkgeibifpgiaa
/-- The row, under a short name, for the claim. -/
theorem recipeCuts_holds : Rows.RecipeCutsUptoSaid := recipeCuts.proved
end Go.Proofs.Ytdkkgeibifpgiaa
