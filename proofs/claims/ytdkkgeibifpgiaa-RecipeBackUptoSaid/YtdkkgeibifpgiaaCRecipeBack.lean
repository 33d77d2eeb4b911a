/- By a program of this session's: a plain Lean function for a Go function, and its contract. -/
import Derived.Test.YtdkkgeibifpgiaaRows
import Derived.Test.YtdkkgeibifpgiaaCRecipeBack2
import Derived.Test.YtdkkgeibifpgiaaCRecipeBack3
import Derived.WalkKit
import Derived.ProofKit
import Derived.OpenShut
import Derived.ShutString
import Derived.ChangeOld
import Derived.Below
import Derived.SizedLaws
import Derived.JoinedCond
import Derived.Deep.CondSized
set_option linter.unusedVariables false
set_option linter.unusedSimpArgs false
namespace Go.Proofs.Ytdkkgeibifpgiaa.recipeBack
open Go.ChangeShapes Go.WideShapes Go.ChangeAt Go.RowKit Go.Joins Go.Proofs.Ytdkkgeibifpgiaa.Q Go.Proofs.YtdkkgeibifpgiaaW.PrintWords
open Go.ChangeMaps (open_string shut_string)
theorem own : ownKnob Try.prog.godebug = none := by kernel_rfl
theorem laidOut : laidOutB Try.prog = true := by kernel_rfl
set_option maxRecDepth 100000 in
theorem contract (H : Type) (enc : TypeId × Value → H) (W : World) (base : Nat) (args : Array Value) (ds gs : List (DataW H)) (before : List MemPlace)
    (hval0 : ∀ (j : Nat) t v, Try.f5.params[j]? = some t → args[j]? = some v → Value.okWide Try.prog W .any base t v)
    (hW : DataW.Whole enc Try.prog Try.f5.params.toList Rows.recipeBackSpec.vars false W args.toList ds gs before)
    (hsz0 : (DataW.weightsEach Try.prog (Try.f5.params.toList ++ Rows.recipeBackSpec.plain.varTypes Try.prog) (ds ++ gs)).all (· ≤ reachBytes) = true) (hkk : Rows.uptoSmall H (ds ++ gs) = true) :
    Calls Try.prog 5 args W fun e W' => ∃ v, e = .returned v ∧ Rows.recipeBackSpec.post enc Try.prog Try.f5 false true false false W args v W' := by
  have hsz : (DataW.weightsEach Try.prog (Try.f5.params.toList ++ Rows.recipeBackSpec.plain.varTypes Try.prog) (ds ++ gs)).all (· ≤ reachBytes) = true := hsz0
  have hval : ∀ (j : Nat) t v, Try.f5.params[j]? = some t → args[j]? = some v → Value.okWide Try.prog W .any base t v := hval0
  have hW' := hW
  obtain ⟨p, q, hA0, hV, rfl, hfz, hnd⟩ := hW
  have hA : DataW.TrodAll enc Try.prog W 0 (fun _ => true) true Try.f5.params.toList args.toList ds p := hA0
  rw [Try.params5] at hA hval hsz
  obtain ⟨v0, vs0, d0, ds0, p0, q0, hargs, rfl, rfl, h0, r0⟩ := trodAll_cons hA
  obtain ⟨v1, vs1, d1, ds1, p1, q1, rfl, rfl, rfl, h1, r1⟩ := trodAll_cons r0
  obtain ⟨rfl, rfl, rfl⟩ := trodAll_nil r1
  obtain rfl : args = #[v0, v1] := by cases args; simp_all
  obtain ⟨rfl, rfl⟩ := trodVars_none hV
  have k0 := h0
  have lt0 : ∀ x ∈ p0, x.block < W.heap.size := by obtain ⟨m, hm⟩ := k0; exact DataW.trod_lt m _ _ _ hm
  obtain ⟨x0, hK0, hw0, hb0, hg0⟩ := Opens.arg (Opens.opens_iso (fun x : S26 => (x.f0, x.f1, x.f2)) (fun p => (⟨p.1, p.2.1, p.2.2⟩ : S26)) (fun _ => rfl) (Opens.opens_struct Try.underlying26 (by kernel_rfl) (Opens.opensF_cons rfl (Opens.opens_string Try.underlying9 (by kernel_rfl)) (Opens.opensF_cons rfl (Opens.opens_slice Try.underlying23 (by kernel_rfl) (Opens.opens_string Try.underlying9 (by kernel_rfl))) (Opens.opensF_one rfl (Opens.opens_slice Try.underlying24 (by kernel_rfl) (Opens.opens_iso (fun x : S47 => (x.f0, x.f1)) (fun p => (⟨p.1, p.2⟩ : S47)) (fun _ => rfl) (Opens.opens_struct Try.underlying47 (by kernel_rfl) (Opens.opensF_cons rfl (Opens.opens_string Try.underlying9 (by kernel_rfl)) (Opens.opensF_one rfl (Opens.opens_slice Try.underlying23 (by kernel_rfl) (Opens.opens_string Try.underlying9 (by kernel_rfl))))))))))))) h0
  have hr0 : ∀ n ∈ ([((x0).f0).size] ++ (((((x0).f1).length * Try.prog.bytesOf 9) :: ((x0).f1).flatMap (fun y7 => [(y7).size])) ++ ((((x0).f2).length * Try.prog.bytesOf 47) :: ((x0).f2).flatMap (fun y8 => ([((y8).f0).size] ++ ((((y8).f1).length * Try.prog.bytesOf 9) :: ((y8).f1).flatMap (fun y9 => [(y9).size]))))))), n ≤ 140737488351232 := Opens.reach hsz (j := 0) (t := 26) (dd := d0) rfl rfl hw0
  have hq0 : (((x0).f0).size ≤ maxLen ∧ ((((x0).f1).length ≤ maxLen ∧ ∀ y7 ∈ (x0).f1, (y7).size ≤ maxLen) ∧ (((x0).f2).length ≤ maxLen ∧ ∀ y8 ∈ (x0).f2, (((y8).f0).size ≤ maxLen ∧ (((y8).f1).length ≤ maxLen ∧ ∀ y9 ∈ (y8).f1, (y9).size ≤ maxLen))))) := hg0
  have hB0 : (((((x0).f0).size + 1) + (((((x0).f1).map (fun y7 => ((y7).size + 1))).sum + 1) + ((((x0).f2).map (fun y8 => (((((y8).f0).size + 1) + ((((y8).f1).map (fun y9 => ((y9).size + 1))).sum + 1)) + 1))).sum + 1))) + 1) ≤ Rows.uptoBulk d0 := hb0
  obtain ⟨cs0, rfl, hsz0⟩ := okWide_struct Try.underlying26 (hval 0 26 v0 rfl rfl)
  obtain ⟨L0, hL0⟩ : ∃ L, L = cs0.toList := ⟨_, rfl⟩
  have hK0' : (k26).K W x0 cs0.toList := hK0
  rw [← hL0] at hK0'
  obtain ⟨_, _, rfl, rfl, ⟨_, _, rfl, ⟨A0_1, c0_1, rfl, hlc0_1, hC0_1⟩, ⟨A0_2, c0_2, rfl, hlc0_2, hC0_2⟩⟩⟩ := hK0'
  obtain rfl : cs0 = #[.string x0.f0, .slice A0_1 x0.f1.length c0_1, .slice A0_2 x0.f2.length c0_2] := Array.toList_inj.1 hL0.symm
  have k1 := h1
  have lt1 : ∀ x ∈ p1, x.block < W.heap.size := by obtain ⟨m, hm⟩ := k1; exact DataW.trod_lt m _ _ _ hm
  obtain ⟨x1, hK1, hw1, hb1, hg1⟩ := Opens.arg (Opens.opens_iso (fun x : S26 => (x.f0, x.f1, x.f2)) (fun p => (⟨p.1, p.2.1, p.2.2⟩ : S26)) (fun _ => rfl) (Opens.opens_struct Try.underlying26 (by kernel_rfl) (Opens.opensF_cons rfl (Opens.opens_string Try.underlying9 (by kernel_rfl)) (Opens.opensF_cons rfl (Opens.opens_slice Try.underlying23 (by kernel_rfl) (Opens.opens_string Try.underlying9 (by kernel_rfl))) (Opens.opensF_one rfl (Opens.opens_slice Try.underlying24 (by kernel_rfl) (Opens.opens_iso (fun x : S47 => (x.f0, x.f1)) (fun p => (⟨p.1, p.2⟩ : S47)) (fun _ => rfl) (Opens.opens_struct Try.underlying47 (by kernel_rfl) (Opens.opensF_cons rfl (Opens.opens_string Try.underlying9 (by kernel_rfl)) (Opens.opensF_one rfl (Opens.opens_slice Try.underlying23 (by kernel_rfl) (Opens.opens_string Try.underlying9 (by kernel_rfl))))))))))))) h1
  have hr1 : ∀ n ∈ ([((x1).f0).size] ++ (((((x1).f1).length * Try.prog.bytesOf 9) :: ((x1).f1).flatMap (fun y10 => [(y10).size])) ++ ((((x1).f2).length * Try.prog.bytesOf 47) :: ((x1).f2).flatMap (fun y11 => ([((y11).f0).size] ++ ((((y11).f1).length * Try.prog.bytesOf 9) :: ((y11).f1).flatMap (fun y12 => [(y12).size]))))))), n ≤ 140737488351232 := Opens.reach hsz (j := 1) (t := 26) (dd := d1) rfl rfl hw1
  have hq1 : (((x1).f0).size ≤ maxLen ∧ ((((x1).f1).length ≤ maxLen ∧ ∀ y10 ∈ (x1).f1, (y10).size ≤ maxLen) ∧ (((x1).f2).length ≤ maxLen ∧ ∀ y11 ∈ (x1).f2, (((y11).f0).size ≤ maxLen ∧ (((y11).f1).length ≤ maxLen ∧ ∀ y12 ∈ (y11).f1, (y12).size ≤ maxLen))))) := hg1
  have hB1 : (((((x1).f0).size + 1) + (((((x1).f1).map (fun y10 => ((y10).size + 1))).sum + 1) + ((((x1).f2).map (fun y11 => (((((y11).f0).size + 1) + ((((y11).f1).map (fun y12 => ((y12).size + 1))).sum + 1)) + 1))).sum + 1))) + 1) ≤ Rows.uptoBulk d1 := hb1
  obtain ⟨cs1, rfl, hsz1⟩ := okWide_struct Try.underlying26 (hval 1 26 v1 rfl rfl)
  obtain ⟨L1, hL1⟩ : ∃ L, L = cs1.toList := ⟨_, rfl⟩
  have hK1' : (k26).K W x1 cs1.toList := hK1
  rw [← hL1] at hK1'
  obtain ⟨_, _, rfl, rfl, ⟨_, _, rfl, ⟨A1_1, c1_1, rfl, hlc1_1, hC1_1⟩, ⟨A1_2, c1_2, rfl, hlc1_2, hC1_2⟩⟩⟩ := hK1'
  obtain rfl : cs1 = #[.string x1.f0, .slice A1_1 x1.f1.length c1_1, .slice A1_2 x1.f2.length c1_2] := Array.toList_inj.1 hL1.symm
  have hbk : Rows.uptoBulkAll [d0, d1] ≤ 1048576 := of_decide_eq_true hkk
  simp only [Rows.uptoBulkAll, Rows.uptoBulk, Array.length_toList] at hbk
  have hbound : (((((x0).f0).size + 1) + (((((x0).f1).map (fun y1 => ((y1).size + 1))).sum + 1) + ((((x0).f2).map (fun y2 => (((((y2).f0).size + 1) + ((((y2).f1).map (fun y3 => ((y3).size + 1))).sum + 1)) + 1))).sum + 1))) + 1) + (((((x1).f0).size + 1) + (((((x1).f1).map (fun y4 => ((y4).size + 1))).sum + 1) + ((((x1).f2).map (fun y5 => (((((y5).f0).size + 1) + ((((y5).f1).map (fun y6 => ((y6).size + 1))).sum + 1)) + 1))).sum + 1))) + 1) ≤ 1048576 := by
    omega
  clear hA0 hval0 hsz0 hsz
  have hk := Pure.RecipeBack x0 x1 hr0 hq0 hr1 hq1 hbound
  refine (Q.depotlaw21_RecipeBack.calls (x0.f0) A0_1 c0_1 (x0.f1) A0_2 c0_2 (x0.f2) (x1.f0) A1_1 c1_1 (x1.f1) A1_2 c1_2 (x1.f2) true W hC0_1 hlc0_1 hC0_2 hlc0_2 hC1_1 hlc1_1 hC1_2 hlc1_2 hk).mono fun e W' ⟨he, hd⟩ => ?_
  subst he
  have bel : Below W.heap.size W W' := hd
  exact ⟨_, rfl, _, _, _, [], _, [], hW', trodAll_mk1 (shut_bool Try.underlying4 _), (trodAll_cons_mk (Below.trod laidOut (by kernel_rfl) (of_decide_eq_true (by kernel_rfl)) k0 bel lt0) (trodAll_cons_mk (Below.trod laidOut (by kernel_rfl) (of_decide_eq_true (by kernel_rfl)) k1 bel lt1) trodAll_mk0)), rfl, bel.frame _, fun h => by cases h⟩
set_option maxRecDepth 100000 in
theorem lifted (os : Os) (started : os.Started) (H : Type) (enc : TypeId × Value → H) (F : Stop.Interp) :
    ReturnsInHanded {} Try.checked os 5 .any ((Rows.OpenSpec.upto Rows.recipeBackSpec).pre6 enc Try.prog Try.f5 Rows.recipeBackUptoRow.domain false) (((Rows.OpenSpec.upto Rows.recipeBackSpec).at F).post enc Try.prog Try.f5 false true false false) := by
  refine returnsInHanded_of_cond_sized (C := Try.checked) (s := Rows.OpenSpec.upto Rows.recipeBackSpec) (k := Rows.uptoSmall) rfl own started (by kernel_rfl) Try.func5
    (OpenSpec.witness (enc := enc) (C := Try.checked) (s := Rows.OpenSpec.upto Rows.recipeBackSpec) (k := Rows.uptoSmall) rfl false ⟨#[], #[.agg #[.string ByteArray.empty, .slice none 0 0, .slice none 0 0], .agg #[.string ByteArray.empty, .slice none 0 0, .slice none 0 0]], []⟩ 8 (by kernel_rfl) (by kernel_rfl) (by kernel_rfl) (by kernel_rfl)
      (x := ([.agg [.lit (.string []), .nil, .nil], .agg [.lit (.string []), .nil, .nil]], [], [])) (by kernel_rfl) rfl (by kernel_rfl)) ?_
  intro W base args ds gs before hval hW _ hk hsz _
  exact contract H enc W base args ds gs before hval hW hsz hk
theorem over : Rows.recipeBackUptoRow.holds Try.pinned (Rows.OpenSpec.upto Rows.recipeBackSpec) :=
  OpenClaim.holds_of_cond 5 Try.f5 rfl rfl rfl rfl rfl rfl rfl ⟨rfl, rfl, rfl, rfl, rfl⟩ rfl rfl rfl rfl rfl (by kernel_rfl) Try.func5 (by kernel_rfl)
    (of_decide_eq_true (by kernel_rfl)) (by unfold Func.isWrapper; first | (rw [if_pos (by decide +kernel)]; kernel_rfl) | (rw [if_neg (by decide +kernel)]; exact ⟨rfl, rfl⟩))
    (fun os started H enc _ F => lifted os started H enc F)
theorem proved : Rows.RecipeBackUptoSaid := over
#print axioms proved
end Go.Proofs.Ytdkkgeibifpgiaa.recipeBack
namespace Go.Proofs.Ytdkkgeibifpgiaa
/-- The row, under a short name, for the claim. -/
theorem recipeBack_holds : Rows.RecipeBackUptoSaid := recipeBack.proved
end Go.Proofs.Ytdkkgeibifpgiaa
