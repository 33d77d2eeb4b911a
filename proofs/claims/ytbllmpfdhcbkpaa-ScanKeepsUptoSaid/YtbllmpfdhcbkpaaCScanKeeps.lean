/- The row of ScanKeeps, where what it reads is of bulk at most 1048576: the law answers true and leaves its arguments as they were. By a program of this session's. -/
import Derived.Test.YtbllmpfdhcbkpaaRows
import Derived.Test.YtbllmpfdhcbkpaaCScanKeeps2
import Derived.Test.YtbllmpfdhcbkpaaShelf
import Derived.WalkKit
import Derived.ProofKit
import Derived.OpenShut
import Derived.ShutString
import Derived.ChangeOld
import Derived.Below
import Derived.SizedLaws
import Derived.JoinedCond
import Derived.Deep.CondSized
import Derived.Deep.DeepHandedRow
set_option linter.unusedVariables false
set_option linter.unusedSimpArgs false
namespace Go.Proofs.Ytbllmpfdhcbkpaa.scanKeepsUp
open Go.ChangeShapes Go.WideShapes Go.ChangeAt Go.RowKit Go.Joins Go.Proofs.Ytbllmpfdhcbkpaa.Q Go.Proofs.YtbllmpfdhcbkpaaW.PrintWords
open Go.ChangeMaps (open_string shut_string)
theorem own : ownKnob Try.prog.godebug = none := by kernel_rfl
theorem laidOut : laidOutB Try.prog = true := by kernel_rfl
set_option maxRecDepth 100000 in
theorem contract (H : Type) (enc : TypeId × Value → H) (W : World) (m : Int) (hm : W.cell? ⟨0, 0, none⟩ = some (.int .i64 m)) (base : Nat) (args : Array Value) (ds gs : List (DataW H)) (before : List MemPlace)
    (hval0 : ∀ (j : Nat) t v, Try.f6.params[j]? = some t → args[j]? = some v → Value.okWide Try.prog W .any base t v)
    (hW : DataW.Whole enc Try.prog Try.f6.params.toList Rows.scanKeepsSpec.vars false W args.toList ds gs before)
    (hkk : Rows.uptoSmall H (ds ++ gs) = true) :
    Calls Try.prog 6 args W fun e W' => ∃ v, e = .returned v ∧ Rows.scanKeepsSpec.post enc Try.prog Try.f6 false true false false W args v W' := by
  have hval : ∀ (j : Nat) t v, Try.f6.params[j]? = some t → args[j]? = some v → Value.okWide Try.prog W .any base t v := hval0
  have hW' := hW
  obtain ⟨p, q, hA0, hV, rfl, hfz, hnd⟩ := hW
  have hA : DataW.TrodAll enc Try.prog W 0 (fun _ => true) true Try.f6.params.toList args.toList ds p := hA0
  rw [Try.params6] at hA hval
  obtain ⟨v0, vs0, d0, ds0, p0, q0, hargs, rfl, rfl, h0, r0⟩ := trodAll_cons hA
  obtain ⟨v1, vs1, d1, ds1, p1, q1, rfl, rfl, rfl, h1, r1⟩ := trodAll_cons r0
  obtain ⟨rfl, rfl, rfl⟩ := trodAll_nil r1
  obtain rfl : args = #[v0, v1] := by cases args; simp_all
  obtain ⟨rfl, rfl⟩ := trodVars_none hV
  obtain ⟨x0, rfl, rfl, rfl, y0⟩ := open_string Try.underlying9 (hval 0 9 v0 rfl rfl) h0
  obtain ⟨x1, rfl, rfl, rfl, w1⟩ := open_int Try.underlying5 (hval 1 5 v1 rfl rfl) h1
  have hbk : Rows.uptoBulkAll [.lit (.string x0.data.toList), .lit (.int .u8 x1)] ≤ 1048576 := of_decide_eq_true hkk
  simp only [Rows.uptoBulkAll, Rows.uptoBulk, Array.length_toList] at hbk
  have hz0 : x0.size ≤ 1048576 := by
    have s_ : x0.data.size = x0.size := rfl
    omega
  clear hA0 hval0 hkk hbk
  refine (Go.Proofs.Ytbllmpfdhcbkpaa.Scan.keeps14_true W m hm x0 x1 hz0 w1).mono fun e W' ⟨he, hd⟩ => ?_
  subst he
  have bel : Below W.heap.size W W' := hd
  exact ⟨_, rfl, _, _, _, [], _, [], hW', trodAll_mk1 (shut_bool Try.underlying4 _), (trodAll_cons_mk (shut_string Try.underlying9 y0) (trodAll_cons_mk (shut_int Try.underlying5 w1) trodAll_mk0)), rfl, bel.frame _, fun h => by cases h⟩
set_option maxRecDepth 100000 in
theorem witness (os : Os) (H : Type) (enc : TypeId × Value → H) : ∃ (w : World) (tape : Tape) (i : Input), w.os = os ∧ (w.forCall tape i).Shaped Try.checked.prog ∧ i.vars = [] ∧ Input.okWide Try.checked.prog (w.forCall tape i) .any w.heap.size 6 i ∧
      (Rows.OpenSpec.upto Rows.scanKeepsSpec).preRow enc Try.checked.prog Try.f6 [] false [] (w.forCall tape i).memory i.args ∧ ({} : Assume).holds Try.checked.prog (lone (Frame.enter Try.checked.prog 6 i.args .normal) [] (w.forCall tape i)) := by
  obtain ⟨w, tape, i, a1, a2, a3, a4, a5, a6⟩ := OpenSpec.witness (enc := enc) (C := Try.checked) (fn := Try.f6) (os := os) (conds := []) (s := Rows.OpenSpec.upto Rows.scanKeepsSpec) (k := Rows.uptoSmall) rfl false ⟨#[], #[.string ByteArray.empty, .int .u8 0], []⟩ 8 (by kernel_rfl) (by kernel_rfl) (by kernel_rfl) (by kernel_rfl) (x := ([.lit (.string []), .lit (.int .u8 0)], [], [])) (by kernel_rfl) rfl (by kernel_rfl)
  exact ⟨w, tape, i, a1, a2, a3, a4, ⟨⟨a5.1, laidMetH_nil _ _⟩, a5.2⟩, a6⟩
set_option maxRecDepth 100000 in
theorem lifted (os : Os) (started : os.Started) (H : Type) (enc : TypeId × Value → H) (F : Stop.Interp) :
    ReturnsInHanded {} Try.checked os 6 .any ((Rows.OpenSpec.upto Rows.scanKeepsSpec).preRow enc Try.prog Try.f6 [] false []) (((Rows.OpenSpec.upto Rows.scanKeepsSpec).at F).post enc Try.prog Try.f6 false true false false) := by
  refine returnsInHanded_of_row (C := Try.checked) (s := Rows.OpenSpec.upto Rows.scanKeepsSpec) own started (by kernel_rfl) Try.func6 (witness os H enc) ?_
  intro W base args ds gs before hval hW hcond hk hsz hX hsh hmore
  obtain ⟨m, hm⟩ := Try.laysM219.s1_3 W hsh
  exact contract H enc W m hm base args ds gs before hval hW (hk _ rfl)
theorem over : Rows.scanKeepsUptoRow.holds Try.pinned (Rows.OpenSpec.upto Rows.scanKeepsSpec) :=
  OpenClaim.holds_of_cond 6 Try.f6 rfl rfl rfl rfl rfl rfl rfl ⟨rfl, rfl, rfl, rfl, rfl⟩ rfl rfl rfl rfl rfl (by kernel_rfl) Try.func6 (by kernel_rfl)
    (of_decide_eq_true (by kernel_rfl)) (by unfold Func.isWrapper; first | (rw [if_pos (by decide +kernel)]; kernel_rfl) | (rw [if_neg (by decide +kernel)]; exact ⟨rfl, rfl⟩))
    (fun os started H enc _ F => by rw [OpenClaim.pre_eq_preRow]; exact lifted os started H enc F)
theorem proved : Rows.ScanKeepsUptoSaid := over
#print axioms proved
end Go.Proofs.Ytbllmpfdhcbkpaa.scanKeepsUp
namespace Go.Proofs.Ytbllmpfdhcbkpaa
/-- The row, under a short name, for the claim. -/
theorem scanKeeps_holds : Rows.ScanKeepsUptoSaid := scanKeepsUp.proved
end Go.Proofs.Ytbllmpfdhcbkpaa
