/- The row of ScanPlays, where what it reads is of bulk at most 1048576: the law answers true and leaves its arguments as they were. By a program of this session's. -/
import Derived.Test.YtbllmpfdhcbkpaaRows
import Derived.Test.YtbllmpfdhcbkpaaCScanPlays2
import Derived.Test.YtbllmpfdhcbkpaaShelf
import Derived.WalkKit
import Derived.ProofKit
import Derived.OpenShut
import Derived.ShutString
import Derived.ChangeOld
import Derived.Below
import Derived.SizedLaws
import Derived.JoinedCond
import Derived.Deep.CondSized
import Derived.Deep.DeepHandedRow
set_option linter.unusedVariables false
set_option linter.unusedSimpArgs false
namespace Go.Proofs.Ytbllmpfdhcbkpaa.scanPlaysUp
open Go.ChangeShapes Go.WideShapes Go.ChangeAt Go.RowKit Go.Joins Go.Proofs.Ytbllmpfdhcbkpaa.Q Go.Proofs.YtbllmpfdhcbkpaaW.PrintWords
open Go.ChangeMaps (open_string shut_string)
theorem own : ownKnob Try.prog.godebug = none := by kernel_rfl
theorem laidOut : laidOutB Try.prog = true := by kernel_rfl
set_option maxRecDepth 100000 in
theorem contract (H : Type) (enc : TypeId × Value → H) (W : World) (m : Int) (hm : W.cell? ⟨0, 0, none⟩ = some (.int .i64 m)) (base : Nat) (args : Array Value) (ds gs : List (DataW H)) (before : List MemPlace)
    (hval0 : ∀ (j : Nat) t v, Try.f7.params[j]? = some t → args[j]? = some v → Value.okWide Try.prog W .any base t v)
    (hW : DataW.Whole enc Try.prog Try.f7.params.toList Rows.scanPlaysSpec.vars false W args.toList ds gs before)
    (hkk : Rows.uptoSmall H (ds ++ gs) = true) :
    Calls Try.prog 7 args W fun e W' => ∃ v, e = .returned v ∧ Rows.scanPlaysSpec.post enc Try.prog Try.f7 false true false false W args v W' := by
  have hval : ∀ (j : Nat) t v, Try.f7.params[j]? = some t → args[j]? = some v → Value.okWide Try.prog W .any base t v := hval0
  have hW' := hW
  obtain ⟨p, q, hA0, hV, rfl, hfz, hnd⟩ := hW
  have hA : DataW.TrodAll enc Try.prog W 0 (fun _ => true) true Try.f7.params.toList args.toList ds p := hA0
  rw [Try.params7] at hA hval
  obtain ⟨v0, vs0, d0, ds0, p0, q0, hargs, rfl, rfl, h0, r0⟩ := trodAll_cons hA
  obtain ⟨v1, vs1, d1, ds1, p1, q1, rfl, rfl, rfl, h1, r1⟩ := trodAll_cons r0
  obtain ⟨rfl, rfl, rfl⟩ := trodAll_nil r1
  obtain rfl : args = #[v0, v1] := by cases args; simp_all
  obtain ⟨rfl, rfl⟩ := trodVars_none hV
  have k0 := h0
  have lt0 : ∀ x ∈ p0, x.block < W.heap.size := by obtain ⟨m, hm⟩ := k0; exact DataW.trod_lt m _ _ _ hm
  obtain ⟨x0, hK0, hw0, hb0, hg0⟩ := Opens.arg (Opens.opens_slice Try.underlying34 (by kernel_rfl) (Opens.opens_string Try.underlying9 (by kernel_rfl))) h0
  have hB0 : (x0.map (fun y => (y.size + 1))).sum + 1 ≤ Rows.uptoBulk d0 := hb0
  obtain ⟨A0, n0, c0, rfl⟩ := okWide_slice Try.underlying34 (hval 0 34 v0 rfl rfl)
  obtain ⟨A0', c0', hcs0, hlc0, hC0⟩ := hK0
  have hcs0' : [Value.slice A0 n0 c0] = [.slice A0' x0.length c0'] := hcs0
  injection hcs0' with e0 _
  injection e0 with ea0 en0 ec0
  subst ea0 en0 ec0
  have k1 := h1
  have lt1 : ∀ x ∈ p1, x.block < W.heap.size := by obtain ⟨m, hm⟩ := k1; exact DataW.trod_lt m _ _ _ hm
  obtain ⟨x1, hK1, hw1, hb1, hg1⟩ := Opens.arg (Opens.opens_slice Try.underlying34 (by kernel_rfl) (Opens.opens_string Try.underlying9 (by kernel_rfl))) h1
  have hB1 : (x1.map (fun y => (y.size + 1))).sum + 1 ≤ Rows.uptoBulk d1 := hb1
  obtain ⟨A1, n1, c1, rfl⟩ := okWide_slice Try.underlying34 (hval 1 34 v1 rfl rfl)
  obtain ⟨A1', c1', hcs1, hlc1, hC1⟩ := hK1
  have hcs1' : [Value.slice A1 n1 c1] = [.slice A1' x1.length c1'] := hcs1
  injection hcs1' with e1 _
  injection e1 with ea1 en1 ec1
  subst ea1 en1 ec1
  have hbk : Rows.uptoBulkAll [d0, d1] ≤ 1048576 := of_decide_eq_true hkk
  simp only [Rows.uptoBulkAll, Rows.uptoBulk, Array.length_toList] at hbk
  have hn0 : x0.length ≤ 1048576 := by
    have h_ := Upto.len_le (fun y : ByteArray => (y.size + 1)) x0 (fun y _ => by first | omega | (simp only; omega))
    omega
  have hu0 : (x0.map (fun y => y.size + 1)).sum ≤ 1048576 := by omega
  have hz0 : ∀ y ∈ x0, y.size ≤ 1048576 := fun y hy => by
    have h_ := Upto.mem_le (fun y : ByteArray => (y.size + 1)) x0 y hy
    try simp only at h_
    omega
  have hn1 : x1.length ≤ 1048576 := by
    have h_ := Upto.len_le (fun y : ByteArray => (y.size + 1)) x1 (fun y _ => by first | omega | (simp only; omega))
    omega
  have hu1 : (x1.map (fun y => y.size + 1)).sum ≤ 1048576 := by omega
  have hz1 : ∀ y ∈ x1, y.size ≤ 1048576 := fun y hy => by
    have h_ := Upto.mem_le (fun y : ByteArray => (y.size + 1)) x1 y hy
    try simp only at h_
    omega
  clear hA0 hval0 hkk hbk
  refine (Go.Proofs.Ytbllmpfdhcbkpaa.Scan.plays_true W m hm A0 c0 x0 A1 c1 x1 hC0 hlc0 hC1 hlc1 hn0 hz0 hu0 hn1 hz1 hu1).mono fun e W' ⟨he, hd⟩ => ?_
  subst he
  have bel : Below W.heap.size W W' := hd
  exact ⟨_, rfl, _, _, _, [], _, [], hW', trodAll_mk1 (shut_bool Try.underlying4 _), (trodAll_cons_mk (Below.trod laidOut (by kernel_rfl) (of_decide_eq_true (by kernel_rfl)) k0 bel lt0) (trodAll_cons_mk (Below.trod laidOut (by kernel_rfl) (of_decide_eq_true (by kernel_rfl)) k1 bel lt1) trodAll_mk0)), rfl, bel.frame _, fun h => by cases h⟩
set_option maxRecDepth 100000 in
theorem witness (os : Os) (H : Type) (enc : TypeId × Value → H) : ∃ (w : World) (tape : Tape) (i : Input), w.os = os ∧ (w.forCall tape i).Shaped Try.checked.prog ∧ i.vars = [] ∧ Input.okWide Try.checked.prog (w.forCall tape i) .any w.heap.size 7 i ∧
      (Rows.OpenSpec.upto Rows.scanPlaysSpec).preRow enc Try.checked.prog Try.f7 [] false [] (w.forCall tape i).memory i.args ∧ ({} : Assume).holds Try.checked.prog (lone (Frame.enter Try.checked.prog 7 i.args .normal) [] (w.forCall tape i)) := by
  obtain ⟨w, tape, i, a1, a2, a3, a4, a5, a6⟩ := OpenSpec.witness (enc := enc) (C := Try.checked) (fn := Try.f7) (os := os) (conds := []) (s := Rows.OpenSpec.upto Rows.scanPlaysSpec) (k := Rows.uptoSmall) rfl false ⟨#[], #[.slice none 0 0, .slice none 0 0], []⟩ 8 (by kernel_rfl) (by kernel_rfl) (by kernel_rfl) (by kernel_rfl) (x := ([.nil, .nil], [], [])) (by kernel_rfl) rfl (by kernel_rfl)
  exact ⟨w, tape, i, a1, a2, a3, a4, ⟨⟨a5.1, laidMetH_nil _ _⟩, a5.2⟩, a6⟩
set_option maxRecDepth 100000 in
theorem lifted (os : Os) (started : os.Started) (H : Type) (enc : TypeId × Value → H) (F : Stop.Interp) :
    ReturnsInHanded {} Try.checked os 7 .any ((Rows.OpenSpec.upto Rows.scanPlaysSpec).preRow enc Try.prog Try.f7 [] false []) (((Rows.OpenSpec.upto Rows.scanPlaysSpec).at F).post enc Try.prog Try.f7 false true false false) := by
  refine returnsInHanded_of_row (C := Try.checked) (s := Rows.OpenSpec.upto Rows.scanPlaysSpec) own started (by kernel_rfl) Try.func7 (witness os H enc) ?_
  intro W base args ds gs before hval hW hcond hk hsz hX hsh hmore
  obtain ⟨m, hm⟩ := Try.laysM219.s1_3 W hsh
  exact contract H enc W m hm base args ds gs before hval hW (hk _ rfl)
theorem over : Rows.scanPlaysUptoRow.holds Try.pinned (Rows.OpenSpec.upto Rows.scanPlaysSpec) :=
  OpenClaim.holds_of_cond 7 Try.f7 rfl rfl rfl rfl rfl rfl rfl ⟨rfl, rfl, rfl, rfl, rfl⟩ rfl rfl rfl rfl rfl (by kernel_rfl) Try.func7 (by kernel_rfl)
    (of_decide_eq_true (by kernel_rfl)) (by unfold Func.isWrapper; first | (rw [if_pos (by decide +kernel)]; kernel_rfl) | (rw [if_neg (by decide +kernel)]; exact ⟨rfl, rfl⟩))
    (fun os started H enc _ F => by rw [OpenClaim.pre_eq_preRow]; exact lifted os started H enc F)
theorem proved : Rows.ScanPlaysUptoSaid := over
#print axioms proved
end Go.Proofs.Ytbllmpfdhcbkpaa.scanPlaysUp
namespace Go.Proofs.Ytbllmpfdhcbkpaa
/-- The row, under a short name, for the claim. -/
theorem scanPlays_holds : Rows.ScanPlaysUptoSaid := scanPlaysUp.proved
end Go.Proofs.Ytbllmpfdhcbkpaa
