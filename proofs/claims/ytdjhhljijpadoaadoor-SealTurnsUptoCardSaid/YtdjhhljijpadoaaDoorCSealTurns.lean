/- The tied card of SealTurns, where what it reads is of bulk at most 1048576: the law answers true and leaves its arguments as they were. By a program of this session's. -/
import Derived.Test.YtdjhhljijpadoaaDoorRows
import Derived.Test.YtdjhhljijpadoaaDoorCSealTurns4
import Derived.Test.YtdjhhljijpadoaaDoorCards
import Derived.Test.YtdjhhljijpadoaaDoorTie
import Derived.WalkKit
import Derived.ProofKit
import Derived.OpenShut
import Derived.ShutString
import Derived.ChangeOld
import Derived.Below
import Derived.SizedLaws
import Derived.JoinedCond
import Derived.Deep.CondSized
import Derived.Deep.DeepHandedRow
set_option linter.unusedVariables false
set_option linter.unusedSimpArgs false
namespace Go.Proofs.YtdjhhljijpadoaaDoor.sealTurnsUp
open Go.ChangeShapes Go.WideShapes Go.ChangeAt Go.RowKit Go.Joins Go.Proofs.YtdjhhljijpadoaaDoor.Sha Go.Proofs.YtdjhhljijpadoaaDoor.Q Go.Proofs.YtdjhhljijpadoaaDoorW.PrintWords
open Go.ChangeMaps (open_string shut_string)
theorem own : ownKnob Tryd.prog.godebug = none := by kernel_rfl
theorem laidOut : laidOutB Tryd.prog = true := by kernel_rfl
set_option maxRecDepth 100000 in
theorem contract (H : Type) (enc : TypeId × Value → H) (W : World) (hG : Glob W) (base : Nat) (args : Array Value) (ds gs : List (DataW H)) (before : List MemPlace)
    (hval0 : ∀ (j : Nat) t v, Tryd.f5.params[j]? = some t → args[j]? = some v → Value.okWide Tryd.prog W .any base t v)
    (hW : DataW.Whole enc Tryd.prog Tryd.f5.params.toList Rows.sealTurnsSpec.vars false W args.toList ds gs before)
    (hkk : Rows.uptoSmall H (ds ++ gs) = true) :
    Calls Tryd.prog 5 args W fun e W' => ∃ v, e = .returned v ∧ Rows.sealTurnsSpec.post enc Tryd.prog Tryd.f5 false true false false W args v W' := by
  have hval : ∀ (j : Nat) t v, Tryd.f5.params[j]? = some t → args[j]? = some v → Value.okWide Tryd.prog W .any base t v := hval0
  have hW' := hW
  obtain ⟨p, q, hA0, hV, rfl, hfz, hnd⟩ := hW
  have hA : DataW.TrodAll enc Tryd.prog W 0 (fun _ => true) true Tryd.f5.params.toList args.toList ds p := hA0
  rw [Tryd.params5] at hA hval
  obtain ⟨v0, vs0, d0, ds0, p0, q0, hargs, rfl, rfl, h0, r0⟩ := trodAll_cons hA
  obtain ⟨v1, vs1, d1, ds1, p1, q1, rfl, rfl, rfl, h1, r1⟩ := trodAll_cons r0
  obtain ⟨v2, vs2, d2, ds2, p2, q2, rfl, rfl, rfl, h2, r2⟩ := trodAll_cons r1
  obtain ⟨rfl, rfl, rfl⟩ := trodAll_nil r2
  obtain rfl : args = #[v0, v1, v2] := by cases args; simp_all
  obtain ⟨rfl, rfl⟩ := trodVars_none hV
  have k0 := h0
  have lt0 : ∀ x ∈ p0, x.block < W.heap.size := by obtain ⟨m, hm⟩ := k0; exact DataW.trod_lt m _ _ _ hm
  obtain ⟨x0, hK0, hw0, hb0, hg0⟩ := Opens.arg (Opens.opens_slice Tryd.underlying36 (by kernel_rfl) (Opens.opens_iso (fun x : S41 => (x.f0, x.f1)) (fun p => (⟨p.1, p.2⟩ : S41)) (fun _ => rfl) (Opens.opens_struct Tryd.underlying41 (by kernel_rfl) (Opens.opensF_cons rfl (Opens.opens_string Tryd.underlying9 (by kernel_rfl)) (Opens.opensF_one rfl (Opens.opens_string Tryd.underlying9 (by kernel_rfl))))))) h0
  have hB0 : (x0.map (fun y => (((y.f0).size + 1) + ((y.f1).size + 1) + 1))).sum + 1 ≤ Rows.uptoBulk d0 := hb0
  obtain ⟨A0, n0, c0, rfl⟩ := okWide_slice Tryd.underlying36 (hval 0 36 v0 rfl rfl)
  obtain ⟨A0', c0', hcs0, hlc0, hC0⟩ := hK0
  have hcs0' : [Value.slice A0 n0 c0] = [.slice A0' x0.length c0'] := hcs0
  injection hcs0' with e0 _
  injection e0 with ea0 en0 ec0
  subst ea0 en0 ec0
  obtain ⟨x1, rfl, rfl, rfl, y1⟩ := open_string Tryd.underlying9 (hval 1 9 v1 rfl rfl) h1
  have k2 := h2
  have lt2 : ∀ x ∈ p2, x.block < W.heap.size := by obtain ⟨m, hm⟩ := k2; exact DataW.trod_lt m _ _ _ hm
  obtain ⟨x2, hK2, hw2, hb2, hg2⟩ := Opens.arg (Opens.opens_slice Tryd.underlying37 (by kernel_rfl) (Opens.opens_string Tryd.underlying9 (by kernel_rfl))) h2
  have hB2 : (x2.map (fun y => (y.size + 1))).sum + 1 ≤ Rows.uptoBulk d2 := hb2
  obtain ⟨A2, n2, c2, rfl⟩ := okWide_slice Tryd.underlying37 (hval 2 37 v2 rfl rfl)
  obtain ⟨A2', c2', hcs2, hlc2, hC2⟩ := hK2
  have hcs2' : [Value.slice A2 n2 c2] = [.slice A2' x2.length c2'] := hcs2
  injection hcs2' with e2 _
  injection e2 with ea2 en2 ec2
  subst ea2 en2 ec2
  have hbk : Rows.uptoBulkAll [d0, .lit (.string x1.data.toList), d2] ≤ 1048576 := of_decide_eq_true hkk
  simp only [Rows.uptoBulkAll, Rows.uptoBulk, Array.length_toList] at hbk
  have hn0 : x0.length ≤ 1048576 := by
    have h_ := Upto.len_le (fun y : S41 => (((y.f0).size + 1) + ((y.f1).size + 1) + 1)) x0 (fun y _ => by first | omega | (simp only; omega))
    omega
  have hz0 : ∀ y ∈ x0, y.f0.size ≤ 1048576 ∧ y.f1.size ≤ 1048576 := fun y hy => by
    have h_ := Upto.mem_le (fun y : S41 => (((y.f0).size + 1) + ((y.f1).size + 1) + 1)) x0 y hy
    try simp only at h_
    omega
  have hz1 : x1.size ≤ 1048576 := by
    have s_ : x1.data.size = x1.size := rfl
    omega
  have hn2 : x2.length ≤ 1048576 := by
    have h_ := Upto.len_le (fun y : ByteArray => (y.size + 1)) x2 (fun y _ => by first | omega | (simp only; omega))
    omega
  have hz2 : ∀ y ∈ x2, y.size ≤ 1048576 := fun y hy => by
    have h_ := Upto.mem_le (fun y : ByteArray => (y.size + 1)) x2 y hy
    try simp only at h_
    omega
  clear hA0 hval0 hkk hbk
  refine (Go.Proofs.YtdjhhljijpadoaaDoor.Table.turns_true W hG A0 c0 x0 x1 A2 c2 x2 hC0 hlc0 hC2 hlc2 hn0 hz0 hz1 hn2 hz2).mono fun e W' ⟨he, hd⟩ => ?_
  subst he
  have bel : Below W.heap.size W W' := hd
  exact ⟨_, rfl, _, _, _, [], _, [], hW', trodAll_mk1 (shut_bool Tryd.underlying4 _), (trodAll_cons_mk (Below.trod laidOut (by kernel_rfl) (of_decide_eq_true (by kernel_rfl)) k0 bel lt0) (trodAll_cons_mk (shut_string Tryd.underlying9 y1) (trodAll_cons_mk (Below.trod laidOut (by kernel_rfl) (of_decide_eq_true (by kernel_rfl)) k2 bel lt2) trodAll_mk0))), rfl, bel.frame _, fun h => by cases h⟩
set_option maxRecDepth 100000 in
theorem witness (os : Os) (H : Type) (enc : TypeId × Value → H) : ∃ (w : World) (tape : Tape) (i : Input), w.os = os ∧ (w.forCall tape i).Shaped Tryd.checked.prog ∧ i.vars = [] ∧ Input.okWide Tryd.checked.prog (w.forCall tape i) .any w.heap.size 5 i ∧
      (Rows.OpenSpec.upto Rows.sealTurnsSpec).preRow enc Tryd.checked.prog Tryd.f5 [] false Door.laid2 (w.forCall tape i).memory i.args ∧ ({} : Assume).holds Tryd.checked.prog (lone (Frame.enter Tryd.checked.prog 5 i.args .normal) [] (w.forCall tape i)) := by
  have hok : Input.okWideB Tryd.checked.prog ((Door.W0 os).forCall (fun _ _ => 0) ⟨#[], #[.slice none 0 0, .string ByteArray.empty, .slice none 0 0], []⟩) 5 ⟨#[], #[.slice none 0 0, .string ByteArray.empty, .slice none 0 0], []⟩ = true := by kernel_rfl
  refine ⟨Door.W0 os, fun _ _ => 0, ⟨#[], #[.slice none 0 0, .string ByteArray.empty, .slice none 0 0], []⟩, rfl, Door.shaped os _, (Input.okWide_of_okWideB (base := 0) hok).1, (Input.okWide_of_okWideB hok).2, ?_, ?_⟩
  · exact OpenSpec.preRow_of_cond 8 (x := ([.nil, .lit (.string []), .nil], [], [])) (by kernel_rfl) rfl (fun k e => by cases e; kernel_rfl) (by kernel_rfl) (Door.met os _)
  · simp only [Assume.holds]
    exact ⟨by simp, by simp, fun _ => Modest.zero, by simp, by simp⟩
set_option maxRecDepth 100000 in
theorem lifted (os : Os) (started : os.Started) (H : Type) (enc : TypeId × Value → H) (F : Stop.Interp) :
    ReturnsInHanded {} Tryd.checked os 5 .any ((Rows.OpenSpec.upto Rows.sealTurnsSpec).preRow enc Tryd.prog Tryd.f5 [] false Door.laid2) (((Rows.OpenSpec.upto Rows.sealTurnsSpec).at F).post enc Tryd.prog Tryd.f5 false true false false) := by
  refine returnsInHanded_of_row (C := Tryd.checked) (s := Rows.OpenSpec.upto Rows.sealTurnsSpec) own started (by kernel_rfl) Tryd.func5 (witness os H enc) ?_
  intro W base args ds gs before hval hW hcond hk hsz hX hsh hmore
  exact contract H enc W (glob_of hX) base args ds gs before hval hW (hk _ rfl)
theorem over : Rows.sealTurnsUptoRow.holds Tryd.pinned (Rows.OpenSpec.upto Rows.sealTurnsSpec) :=
  OpenClaim.holds_of_cond 5 Tryd.f5 rfl rfl rfl rfl rfl rfl rfl ⟨rfl, rfl, rfl, rfl, rfl⟩ rfl rfl rfl rfl rfl (by kernel_rfl) Tryd.func5 (by kernel_rfl)
    (of_decide_eq_true (by kernel_rfl)) (by unfold Func.isWrapper; first | (rw [if_pos (by decide +kernel)]; kernel_rfl) | (rw [if_neg (by decide +kernel)]; exact ⟨rfl, rfl⟩))
    (fun os started H enc _ F => by rw [OpenClaim.pre_eq_preRow]; exact lifted os started H enc F)
theorem card : Rows.SealTurnsUptoCardSaid :=
  Claim7.holds_tied_plain_at .later [] [.data, .data] true (true, "7606fc7fbc23fdd968b0d4336a5246e5b738dec308332e08883e7586f8dcef1b") false
    over (fun _ h => by cases h) (by kernel_rfl) (fun _ h => by cases h) sealTurnsUpto_row_tie rfl ⟨rfl, rfl⟩ (by kernel_rfl) rfl
    (fun f fn hf hfn => by
      obtain rfl : f = 5 := Option.some.inj ((show Tryd.prog.funcNamed Rows.sealTurnsUptoRow.func = some 5 by kernel_rfl).symm.trans hf) |>.symm
      obtain rfl : fn = Tryd.f5 := (Option.some.inj (Tryd.func5.symm.trans hfn)).symm
      exact ⟨by kernel_rfl, fun j t ht => by
        have hall : (Tryd.f5.params.toList.all fun u => !Tryd.prog.wantsStandIn u) = true := by kernel_rfl
        have hm : t ∈ Tryd.f5.params.toList := by simpa using Array.mem_of_getElem? ht
        exact (show Tryd.prog.wantsStandIn t = false by simpa using List.all_eq_true.1 hall t hm)⟩)
    (by kernel_rfl)
#print axioms card
end Go.Proofs.YtdjhhljijpadoaaDoor.sealTurnsUp
namespace Go.Proofs.YtdjhhljijpadoaaDoor
/-- The tied card: for every input of bulk at most 1048576 SealTurns answers true, and each argument reads afterwards as before, where SHA-256's two listed tables read as the program's text lays them (tied). -/
theorem sealTurns_upto_card : Rows.SealTurnsUptoCardSaid := sealTurnsUp.card
end Go.Proofs.YtdjhhljijpadoaaDoor
