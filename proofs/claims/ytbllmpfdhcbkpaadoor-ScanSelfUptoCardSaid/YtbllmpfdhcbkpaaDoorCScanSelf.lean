/- The tied card of ScanSelf, where what it reads is of bulk at most 1048576: the law answers true and leaves its arguments as they were. By a program of this session's. -/
import Derived.Test.YtbllmpfdhcbkpaaDoorRows
import Derived.Test.YtbllmpfdhcbkpaaDoorCScanSelf2
import Derived.Test.YtbllmpfdhcbkpaaDoorCScanSelf1
import Derived.Test.YtbllmpfdhcbkpaaDoorCards
import Derived.Test.YtbllmpfdhcbkpaaDoorTie
import Derived.WalkKit
import Derived.ProofKit
import Derived.OpenShut
import Derived.ShutString
import Derived.ChangeOld
import Derived.Below
import Derived.SizedLaws
import Derived.JoinedCond
import Derived.Deep.CondSized
import Derived.Deep.DeepHandedRow
set_option linter.unusedVariables false
set_option linter.unusedSimpArgs false
namespace Go.Proofs.YtbllmpfdhcbkpaaDoor.scanSelfUp
open Go.ChangeShapes Go.WideShapes Go.ChangeAt Go.RowKit Go.Joins Go.Proofs.YtbllmpfdhcbkpaaDoor.Sha Go.Proofs.YtbllmpfdhcbkpaaDoor.Q Go.Proofs.YtbllmpfdhcbkpaaDoorW.PrintWords
open Go.ChangeMaps (open_string shut_string)
theorem own : ownKnob Tryd.prog.godebug = none := by kernel_rfl
theorem laidOut : laidOutB Tryd.prog = true := by kernel_rfl
set_option maxRecDepth 100000 in
theorem contract (H : Type) (enc : TypeId × Value → H) (W : World) (hG : Gl W) (base : Nat) (args : Array Value) (ds gs : List (DataW H)) (before : List MemPlace)
    (hval0 : ∀ (j : Nat) t v, Tryd.f4.params[j]? = some t → args[j]? = some v → Value.okWide Tryd.prog W .any base t v)
    (hW : DataW.Whole enc Tryd.prog Tryd.f4.params.toList Rows.scanSelfSpec.vars false W args.toList ds gs before)
    (hkk : Rows.uptoSmall H (ds ++ gs) = true) :
    Calls Tryd.prog 4 args W fun e W' => ∃ v, e = .returned v ∧ Rows.scanSelfSpec.post enc Tryd.prog Tryd.f4 false true false false W args v W' := by
  have hval : ∀ (j : Nat) t v, Tryd.f4.params[j]? = some t → args[j]? = some v → Value.okWide Tryd.prog W .any base t v := hval0
  have hW' := hW
  obtain ⟨p, q, hA0, hV, rfl, hfz, hnd⟩ := hW
  have hA : DataW.TrodAll enc Tryd.prog W 0 (fun _ => true) true Tryd.f4.params.toList args.toList ds p := hA0
  rw [Tryd.params4] at hA hval
  obtain ⟨v0, vs0, d0, ds0, p0, q0, hargs, rfl, rfl, h0, r0⟩ := trodAll_cons hA
  obtain ⟨v1, vs1, d1, ds1, p1, q1, rfl, rfl, rfl, h1, r1⟩ := trodAll_cons r0
  obtain ⟨v2, vs2, d2, ds2, p2, q2, rfl, rfl, rfl, h2, r2⟩ := trodAll_cons r1
  obtain ⟨rfl, rfl, rfl⟩ := trodAll_nil r2
  obtain rfl : args = #[v0, v1, v2] := by cases args; simp_all
  obtain ⟨rfl, rfl⟩ := trodVars_none hV
  obtain ⟨x0, rfl, rfl, rfl, y0⟩ := open_string Tryd.underlying9 (hval 0 9 v0 rfl rfl) h0
  obtain ⟨x1, rfl, rfl, rfl, y1⟩ := open_string Tryd.underlying9 (hval 1 9 v1 rfl rfl) h1
  obtain ⟨x2, rfl, rfl, rfl, y2⟩ := open_string Tryd.underlying9 (hval 2 9 v2 rfl rfl) h2
  have hbk : Rows.uptoBulkAll [.lit (.string x0.data.toList), .lit (.string x1.data.toList), .lit (.string x2.data.toList)] ≤ 1048576 := of_decide_eq_true hkk
  simp only [Rows.uptoBulkAll, Rows.uptoBulk, Array.length_toList] at hbk
  have hz0 : x0.size ≤ 1048576 := by
    have s_ : x0.data.size = x0.size := rfl
    omega
  have hz1 : x1.size ≤ 1048576 := by
    have s_ : x1.data.size = x1.size := rfl
    omega
  have hz2 : x2.size ≤ 1048576 := by
    have s_ : x2.data.size = x2.size := rfl
    omega
  clear hA0 hval0 hkk hbk
  refine (Go.Proofs.YtbllmpfdhcbkpaaDoor.Scan.self_true W hG x0 x1 x2 hz0 hz1 hz2).mono fun e W' ⟨he, hd⟩ => ?_
  subst he
  have bel : Below W.heap.size W W' := hd
  exact ⟨_, rfl, _, _, _, [], _, [], hW', trodAll_mk1 (shut_bool Tryd.underlying4 _), (trodAll_cons_mk (shut_string Tryd.underlying9 y0) (trodAll_cons_mk (shut_string Tryd.underlying9 y1) (trodAll_cons_mk (shut_string Tryd.underlying9 y2) trodAll_mk0))), rfl, bel.frame _, fun h => by cases h⟩
set_option maxRecDepth 100000 in
theorem witness (os : Os) (H : Type) (enc : TypeId × Value → H) : ∃ (w : World) (tape : Tape) (i : Input), w.os = os ∧ (w.forCall tape i).Shaped Tryd.checked.prog ∧ i.vars = [] ∧ Input.okWide Tryd.checked.prog (w.forCall tape i) .any w.heap.size 4 i ∧
      (Rows.OpenSpec.upto Rows.scanSelfSpec).preRow enc Tryd.checked.prog Tryd.f4 [] false Door.laid2 (w.forCall tape i).memory i.args ∧ ({} : Assume).holds Tryd.checked.prog (lone (Frame.enter Tryd.checked.prog 4 i.args .normal) [] (w.forCall tape i)) := by
  have hok : Input.okWideB Tryd.checked.prog ((Door.W0 os).forCall (fun _ _ => 0) ⟨#[], #[.string ByteArray.empty, .string ByteArray.empty, .string ByteArray.empty], []⟩) 4 ⟨#[], #[.string ByteArray.empty, .string ByteArray.empty, .string ByteArray.empty], []⟩ = true := by kernel_rfl
  refine ⟨Door.W0 os, fun _ _ => 0, ⟨#[], #[.string ByteArray.empty, .string ByteArray.empty, .string ByteArray.empty], []⟩, rfl, Door.shaped os _, (Input.okWide_of_okWideB (base := 0) hok).1, (Input.okWide_of_okWideB hok).2, ?_, ?_⟩
  · exact OpenSpec.preRow_of_cond 8 (x := ([.lit (.string []), .lit (.string []), .lit (.string [])], [], [])) (by kernel_rfl) rfl (fun k e => by cases e; kernel_rfl) (by kernel_rfl) (Door.met os _)
  · simp only [Assume.holds]
    exact ⟨by simp, by simp, fun _ => Modest.zero, by simp, by simp⟩
set_option maxRecDepth 100000 in
theorem lifted (os : Os) (started : os.Started) (H : Type) (enc : TypeId × Value → H) (F : Stop.Interp) :
    ReturnsInHanded {} Tryd.checked os 4 .any ((Rows.OpenSpec.upto Rows.scanSelfSpec).preRow enc Tryd.prog Tryd.f4 [] false Door.laid2) (((Rows.OpenSpec.upto Rows.scanSelfSpec).at F).post enc Tryd.prog Tryd.f4 false true false false) := by
  refine returnsInHanded_of_row (C := Tryd.checked) (s := Rows.OpenSpec.upto Rows.scanSelfSpec) own started (by kernel_rfl) Tryd.func4 (witness os H enc) ?_
  intro W base args ds gs before hval hW hcond hk hsz hX hsh hmore
  exact contract H enc W (gl_of hX hsh) base args ds gs before hval hW (hk _ rfl)
theorem over : Rows.scanSelfUptoRow.holds Tryd.pinned (Rows.OpenSpec.upto Rows.scanSelfSpec) :=
  OpenClaim.holds_of_cond 4 Tryd.f4 rfl rfl rfl rfl rfl rfl rfl ⟨rfl, rfl, rfl, rfl, rfl⟩ rfl rfl rfl rfl rfl (by kernel_rfl) Tryd.func4 (by kernel_rfl)
    (of_decide_eq_true (by kernel_rfl)) (by unfold Func.isWrapper; first | (rw [if_pos (by decide +kernel)]; kernel_rfl) | (rw [if_neg (by decide +kernel)]; exact ⟨rfl, rfl⟩))
    (fun os started H enc _ F => by rw [OpenClaim.pre_eq_preRow]; exact lifted os started H enc F)
theorem card : Rows.ScanSelfUptoCardSaid :=
  Claim7.holds_tied_plain_at .later [] [.data, .data, .data, .data, .data] true (true, "66139c0dd48d77ecdf971008b3137b6b380449df3008e10f2417c145fff7facb") false
    over (fun _ h => by cases h) (by kernel_rfl) (fun _ h => by cases h) scanSelfUpto_row_tie rfl ⟨rfl, rfl⟩ (by kernel_rfl) rfl
    (fun f fn hf hfn => by
      obtain rfl : f = 4 := Option.some.inj ((show Tryd.prog.funcNamed Rows.scanSelfUptoRow.func = some 4 by kernel_rfl).symm.trans hf) |>.symm
      obtain rfl : fn = Tryd.f4 := (Option.some.inj (Tryd.func4.symm.trans hfn)).symm
      exact ⟨by kernel_rfl, fun j t ht => by
        have hall : (Tryd.f4.params.toList.all fun u => !Tryd.prog.wantsStandIn u) = true := by kernel_rfl
        have hm : t ∈ Tryd.f4.params.toList := by simpa using Array.mem_of_getElem? ht
        exact (show Tryd.prog.wantsStandIn t = false by simpa using List.all_eq_true.1 hall t hm)⟩)
    (by kernel_rfl)
#print axioms card
end Go.Proofs.YtbllmpfdhcbkpaaDoor.scanSelfUp
namespace Go.Proofs.YtbllmpfdhcbkpaaDoor
/-- The tied card: for every input of bulk at most 1048576 ScanSelf answers true, and each argument reads afterwards as before, where SHA-256's two listed tables read as the program's text lays them (tied). -/
theorem scanSelf_upto_card : Rows.ScanSelfUptoCardSaid := scanSelfUp.card
end Go.Proofs.YtbllmpfdhcbkpaaDoor
