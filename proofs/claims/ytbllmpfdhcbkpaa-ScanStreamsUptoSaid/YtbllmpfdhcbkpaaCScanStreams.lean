/- The row of ScanStreams, where what it reads is of bulk at most 1048576: the law answers true and leaves its arguments as they were. By a program of this session's. -/
import Derived.Test.YtbllmpfdhcbkpaaRows
import Derived.Test.YtbllmpfdhcbkpaaCScanStreams2
import Derived.Test.YtbllmpfdhcbkpaaShelf
import Derived.WalkKit
import Derived.ProofKit
import Derived.OpenShut
import Derived.ShutString
import Derived.ChangeOld
import Derived.Below
import Derived.SizedLaws
import Derived.JoinedCond
import Derived.Deep.CondSized
import Derived.Deep.DeepHandedRow
set_option linter.unusedVariables false
set_option linter.unusedSimpArgs false
namespace Go.Proofs.Ytbllmpfdhcbkpaa.scanStreamsUp
open Go.ChangeShapes Go.WideShapes Go.ChangeAt Go.RowKit Go.Joins Go.Proofs.Ytbllmpfdhcbkpaa.Q Go.Proofs.YtbllmpfdhcbkpaaW.PrintWords
open Go.ChangeMaps (open_string shut_string)
theorem own : ownKnob Try.prog.godebug = none := by kernel_rfl
theorem laidOut : laidOutB Try.prog = true := by kernel_rfl
set_option maxRecDepth 100000 in
theorem contract (H : Type) (enc : TypeId × Value → H) (W : World) (m : Int) (hm : W.cell? ⟨0, 0, none⟩ = some (.int .i64 m)) (base : Nat) (args : Array Value) (ds gs : List (DataW H)) (before : List MemPlace)
    (hval0 : ∀ (j : Nat) t v, Try.f8.params[j]? = some t → args[j]? = some v → Value.okWide Try.prog W .any base t v)
    (hW : DataW.Whole enc Try.prog Try.f8.params.toList Rows.scanStreamsSpec.vars false W args.toList ds gs before)
    (hkk : Rows.uptoSmall H (ds ++ gs) = true) :
    Calls Try.prog 8 args W fun e W' => ∃ v, e = .returned v ∧ Rows.scanStreamsSpec.post enc Try.prog Try.f8 false true false false W args v W' := by
  have hval : ∀ (j : Nat) t v, Try.f8.params[j]? = some t → args[j]? = some v → Value.okWide Try.prog W .any base t v := hval0
  have hW' := hW
  obtain ⟨p, q, hA0, hV, rfl, hfz, hnd⟩ := hW
  have hA : DataW.TrodAll enc Try.prog W 0 (fun _ => true) true Try.f8.params.toList args.toList ds p := hA0
  rw [Try.params8] at hA hval
  obtain ⟨v0, vs0, d0, ds0, p0, q0, hargs, rfl, rfl, h0, r0⟩ := trodAll_cons hA
  obtain ⟨v1, vs1, d1, ds1, p1, q1, rfl, rfl, rfl, h1, r1⟩ := trodAll_cons r0
  obtain ⟨v2, vs2, d2, ds2, p2, q2, rfl, rfl, rfl, h2, r2⟩ := trodAll_cons r1
  obtain ⟨rfl, rfl, rfl⟩ := trodAll_nil r2
  obtain rfl : args = #[v0, v1, v2] := by cases args; simp_all
  obtain ⟨rfl, rfl⟩ := trodVars_none hV
  obtain ⟨x0, rfl, rfl, rfl, y0⟩ := open_string Try.underlying9 (hval 0 9 v0 rfl rfl) h0
  obtain ⟨x1, rfl, rfl, rfl, y1⟩ := open_string Try.underlying9 (hval 1 9 v1 rfl rfl) h1
  have k2 := h2
  have lt2 : ∀ x ∈ p2, x.block < W.heap.size := by obtain ⟨m, hm⟩ := k2; exact DataW.trod_lt m _ _ _ hm
  obtain ⟨x2, hK2, hw2, hb2, hg2⟩ := Opens.arg (Opens.opens_slice Try.underlying23 (by kernel_rfl) (Opens.opens_int Try.underlying3 (by kernel_rfl))) h2
  have hB2 : (x2.map (fun y => 1)).sum + 1 ≤ Rows.uptoBulk d2 := hb2
  have hg2' : x2.length ≤ maxLen ∧ ∀ y ∈ x2, (Lit.int .i64 y).wf = true := hg2
  obtain ⟨A2, n2, c2, rfl⟩ := okWide_slice Try.underlying23 (hval 2 23 v2 rfl rfl)
  obtain ⟨A2', c2', hcs2, hlc2, hC2⟩ := hK2
  have hcs2' : [Value.slice A2 n2 c2] = [.slice A2' x2.length c2'] := hcs2
  injection hcs2' with e2 _
  injection e2 with ea2 en2 ec2
  subst ea2 en2 ec2
  have hbk : Rows.uptoBulkAll [.lit (.string x0.data.toList), .lit (.string x1.data.toList), d2] ≤ 1048576 := of_decide_eq_true hkk
  simp only [Rows.uptoBulkAll, Rows.uptoBulk, Array.length_toList] at hbk
  have hz0 : x0.size ≤ 1048576 := by
    have s_ : x0.data.size = x0.size := rfl
    omega
  have hz1 : x1.size ≤ 1048576 := by
    have s_ : x1.data.size = x1.size := rfl
    omega
  have hn2 : x2.length ≤ 1048576 := by
    have h_ := Upto.len_le (fun y : Int => 1) x2 (fun y _ => by first | omega | (simp only; omega))
    omega
  clear hA0 hval0 hkk hbk
  refine (Go.Proofs.Ytbllmpfdhcbkpaa.Scan.streams_true W m hm x0 x1 A2 c2 x2 hC2 hlc2 hz0 hz1 hn2 hg2'.2).mono fun e W' ⟨he, hd⟩ => ?_
  subst he
  have bel : Below W.heap.size W W' := hd
  exact ⟨_, rfl, _, _, _, [], _, [], hW', trodAll_mk1 (shut_bool Try.underlying4 _), (trodAll_cons_mk (shut_string Try.underlying9 y0) (trodAll_cons_mk (shut_string Try.underlying9 y1) (trodAll_cons_mk (Below.trod laidOut (by kernel_rfl) (of_decide_eq_true (by kernel_rfl)) k2 bel lt2) trodAll_mk0))), rfl, bel.frame _, fun h => by cases h⟩
set_option maxRecDepth 100000 in
theorem witness (os : Os) (H : Type) (enc : TypeId × Value → H) : ∃ (w : World) (tape : Tape) (i : Input), w.os = os ∧ (w.forCall tape i).Shaped Try.checked.prog ∧ i.vars = [] ∧ Input.okWide Try.checked.prog (w.forCall tape i) .any w.heap.size 8 i ∧
      (Rows.OpenSpec.upto Rows.scanStreamsSpec).preRow enc Try.checked.prog Try.f8 [] false [] (w.forCall tape i).memory i.args ∧ ({} : Assume).holds Try.checked.prog (lone (Frame.enter Try.checked.prog 8 i.args .normal) [] (w.forCall tape i)) := by
  obtain ⟨w, tape, i, a1, a2, a3, a4, a5, a6⟩ := OpenSpec.witness (enc := enc) (C := Try.checked) (fn := Try.f8) (os := os) (conds := []) (s := Rows.OpenSpec.upto Rows.scanStreamsSpec) (k := Rows.uptoSmall) rfl false ⟨#[], #[.string ByteArray.empty, .string ByteArray.empty, .slice none 0 0], []⟩ 8 (by kernel_rfl) (by kernel_rfl) (by kernel_rfl) (by kernel_rfl) (x := ([.lit (.string []), .lit (.string []), .nil], [], [])) (by kernel_rfl) rfl (by kernel_rfl)
  exact ⟨w, tape, i, a1, a2, a3, a4, ⟨⟨a5.1, laidMetH_nil _ _⟩, a5.2⟩, a6⟩
set_option maxRecDepth 100000 in
theorem lifted (os : Os) (started : os.Started) (H : Type) (enc : TypeId × Value → H) (F : Stop.Interp) :
    ReturnsInHanded {} Try.checked os 8 .any ((Rows.OpenSpec.upto Rows.scanStreamsSpec).preRow enc Try.prog Try.f8 [] false []) (((Rows.OpenSpec.upto Rows.scanStreamsSpec).at F).post enc Try.prog Try.f8 false true false false) := by
  refine returnsInHanded_of_row (C := Try.checked) (s := Rows.OpenSpec.upto Rows.scanStreamsSpec) own started (by kernel_rfl) Try.func8 (witness os H enc) ?_
  intro W base args ds gs before hval hW hcond hk hsz hX hsh hmore
  obtain ⟨m, hm⟩ := Try.laysM219.s1_3 W hsh
  exact contract H enc W m hm base args ds gs before hval hW (hk _ rfl)
theorem over : Rows.scanStreamsUptoRow.holds Try.pinned (Rows.OpenSpec.upto Rows.scanStreamsSpec) :=
  OpenClaim.holds_of_cond 8 Try.f8 rfl rfl rfl rfl rfl rfl rfl ⟨rfl, rfl, rfl, rfl, rfl⟩ rfl rfl rfl rfl rfl (by kernel_rfl) Try.func8 (by kernel_rfl)
    (of_decide_eq_true (by kernel_rfl)) (by unfold Func.isWrapper; first | (rw [if_pos (by decide +kernel)]; kernel_rfl) | (rw [if_neg (by decide +kernel)]; exact ⟨rfl, rfl⟩))
    (fun os started H enc _ F => by rw [OpenClaim.pre_eq_preRow]; exact lifted os started H enc F)
theorem proved : Rows.ScanStreamsUptoSaid := over
#print axioms proved
end Go.Proofs.Ytbllmpfdhcbkpaa.scanStreamsUp
namespace Go.Proofs.Ytbllmpfdhcbkpaa
/-- The row, under a short name, for the claim. -/
theorem scanStreams_holds : Rows.ScanStreamsUptoSaid := scanStreamsUp.proved
end Go.Proofs.Ytbllmpfdhcbkpaa
