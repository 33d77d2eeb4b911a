/- By a program of this session's: a plain Lean function for a Go function, and its contract. -/
import Derived.Test.YtglhbbijoeeclaaQ0
import Derived.Test.YtglhbbijoeeclaaQ22
namespace Go.Proofs.Ytglhbbijoeeclaa.Q
open Go.RowKit Go.Proofs.YtglhbbijoeeclaaW.PrintWords Go.Proofs.YtglhbbijoeeclaaW.PrintLast Go.Proofs.YtglhbbijoeeclaaW.PrintMore
attribute [local go_sem] max2_int min2_int max_two min_two max_three min_three max_four min_four Go.Proofs.Ytglhbbijoeeclaa.Ord.str_leq Go.Proofs.Ytglhbbijoeeclaa.Ord.str_gtr Go.Proofs.Ytglhbbijoeeclaa.Ord.str_geq   -- for this text's walks alone
set_option linter.unusedVariables false
set_option linter.unusedSimpArgs false

/-! ### depotref13_Good: function 21 -/
def depotref13_Good.f (k : Nat) (a0 : ByteArray) : Option (Bool) := (depotref13_Parse.f k a0).bind fun bt139 => (some (bt139.2.2 == 0))
theorem depotref13_Good.mono : ∀ a0 k, LeO (depotref13_Good.f k a0) (depotref13_Good.f (k + 1) a0) := by
  intro a0 k
  unfold depotref13_Good.f
  repeat' first
      | (with_reducible exact depotref13_Parse.mono _ _)
      | (with_reducible exact LeO.refl _)
      | (with_reducible exact LeO.none _)
      | (with_reducible refine LeO.ite ?_ ?_)
      | (with_reducible refine LeO.bind ?_ (fun _ => ?_))
      | exact depotref13_Parse.mono _ _
      | exact LeO.none _
      | refine LeO.ite ?_ ?_
      | refine LeO.bind ?_ (fun _ => ?_)
set_option maxHeartbeats 8000000 in
set_option maxRecDepth 100000 in
theorem depotref13_Good.calls (k : Nat) (a0 : ByteArray) (r : Bool) (w : World) (h : depotref13_Good.f k a0 = some r) :
    Calls Try.prog 21 #[.string a0] w fun e w' => e = .returned (.bool r) ∧ Drawn0 w w' := by
  have H : ((depotref13_Parse.f k a0).bind fun bt139 => (some (bt139.2.2 == 0))) = some r := h
  clear h
  replace H := Option.bind_eq_some_iff.mp H
  obtain ⟨⟨t139, t140, t141⟩, A20, H⟩ := H
  replace H : (some (t141 == 0)) = some r := H
  have A2 := Aside0.mk A20
  clear A20
  obtain rfl := Option.some.inj H
  go_enter Try.func21, Try.ntmps21
  go_wp2_with (first | ((with_reducible refine gate_callee (f := 14) rfl ?_); refine goesL_ (some 8) rfl rfl Try.func14 (by kernel_rfl) rfl #[.string a0] rfl (by (try simp only [List.map_toArray, List.map_cons, List.map_nil]); first | done | rfl | (simp only [List.length_drop, List.length_take]; rfl)) ?_; (with_reducible refine (depotref13_Parse.calls k a0 t139 t140 t141 _ A2.out).mono ?_); rintro e w' ⟨rfl, ⟨nd, rfl⟩⟩; refine ⟨_, rfl, ?_⟩))
  go_ret
  exact ⟨by first | rfl | (simp; done) | (simp [*]; done), by repeat (first | exact Drawn0.refl _ | apply Drawn0.step)⟩

end Go.Proofs.Ytglhbbijoeeclaa.Q
