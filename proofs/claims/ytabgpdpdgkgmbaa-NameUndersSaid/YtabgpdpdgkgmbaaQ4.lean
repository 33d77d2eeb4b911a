/- By a program of this session's: a plain Lean function for a Go function, and its contract. -/
import Derived.Test.YtabgpdpdgkgmbaaQ0
import Derived.Test.YtabgpdpdgkgmbaaQ3
import Derived.Test.YtabgpdpdgkgmbaaExtUnder
namespace Go.Proofs.Ytabgpdpdgkgmbaa.Q
open Go.RowKit Go.Proofs.YtabgpdpdgkgmbaaW.PrintWords Go.Proofs.YtabgpdpdgkgmbaaW.PrintLast Go.Proofs.YtabgpdpdgkgmbaaW.PrintMore
attribute [local go_sem] max2_int min2_int max_two min_two max_three min_three max_four min_four Go.Proofs.Ytabgpdpdgkgmbaa.Ord.str_leq Go.Proofs.Ytabgpdpdgkgmbaa.Ord.str_gtr Go.Proofs.Ytabgpdpdgkgmbaa.Ord.str_geq   -- for this text's walks alone
set_option linter.unusedVariables false
set_option linter.unusedSimpArgs false

/-! ### depotlaw05_NameUnders: function 3 -/
def depotlaw05_NameUnders.f (a0 : ByteArray) (a1 : ByteArray) : Option (Bool) := (name_Under.f (⟨#[97, 47, 98]⟩ : ByteArray) (⟨#[97]⟩ : ByteArray)).bind fun t103 => (if t103 = true then ((name_Under.f (⟨#[97, 98]⟩ : ByteArray) (⟨#[97]⟩ : ByteArray)).bind fun t104 => (if t104 = true then (some false) else ((name_Under.f a0 a1).bind fun t105 => ((depotref05_Under.f a0 a1).bind fun t106 => (some (t105 == t106)))))) else (some false))
set_option maxHeartbeats 8000000 in
set_option maxRecDepth 100000 in
theorem depotlaw05_NameUnders.calls (a0 : ByteArray) (a1 : ByteArray) (r : Bool) (w : World) (h : depotlaw05_NameUnders.f a0 a1 = some r) :
    Calls Try.prog 3 #[.string a0, .string a1] w fun e w' => e = .returned (.bool r) ∧ Drawn0 w w' := by
  have H : ((name_Under.f (⟨#[97, 47, 98]⟩ : ByteArray) (⟨#[97]⟩ : ByteArray)).bind fun t103 => (if t103 = true then ((name_Under.f (⟨#[97, 98]⟩ : ByteArray) (⟨#[97]⟩ : ByteArray)).bind fun t104 => (if t104 = true then (some false) else ((name_Under.f a0 a1).bind fun t105 => ((depotref05_Under.f a0 a1).bind fun t106 => (some (t105 == t106)))))) else (some false))) = some r := h
  clear h
  replace H := Option.bind_eq_some_iff.mp H
  obtain ⟨t103, A30, H⟩ := H
  replace H : (if t103 = true then ((name_Under.f (⟨#[97, 98]⟩ : ByteArray) (⟨#[97]⟩ : ByteArray)).bind fun t104 => (if t104 = true then (some false) else ((name_Under.f a0 a1).bind fun t105 => ((depotref05_Under.f a0 a1).bind fun t106 => (some (t105 == t106)))))) else (some false)) = some r := H
  have A3 := Aside0.mk A30
  clear A30
  by_cases c4 : t103 = true
  · subst c4
    have H1 : ((name_Under.f (⟨#[97, 98]⟩ : ByteArray) (⟨#[97]⟩ : ByteArray)).bind fun t104 => (if t104 = true then (some false) else ((name_Under.f a0 a1).bind fun t105 => ((depotref05_Under.f a0 a1).bind fun t106 => (some (t105 == t106)))))) = some r := by rw [if_pos rfl] at H; exact H
    clear H
    have H := H1
    clear H1
    replace H := Option.bind_eq_some_iff.mp H
    obtain ⟨t104, A50, H⟩ := H
    replace H : (if t104 = true then (some false) else ((name_Under.f a0 a1).bind fun t105 => ((depotref05_Under.f a0 a1).bind fun t106 => (some (t105 == t106))))) = some r := H
    have A5 := Aside0.mk A50
    clear A50
    by_cases c6 : t104 = true
    · subst c6
      have H1 : (some false) = some r := by rw [if_pos rfl] at H; exact H
      clear H
      have H := H1
      clear H1
      obtain rfl := Option.some.inj H
      go_enter Try.func3, Try.ntmps3
      go_wp2_with (first | ((with_reducible refine gate_callee (f := 8) rfl ?_); refine goesL_ (some 5) rfl rfl Try.func8 (by kernel_rfl) rfl #[.string (⟨#[97, 47, 98]⟩ : ByteArray), .string (⟨#[97]⟩ : ByteArray)] rfl (by (try simp only [List.map_toArray, List.map_cons, List.map_nil]); first | done | rfl | (simp only [List.length_drop, List.length_take]; rfl)) ?_; (with_reducible refine (name_Under.calls (⟨#[97, 47, 98]⟩ : ByteArray) (⟨#[97]⟩ : ByteArray) true _ A3.out).mono ?_); rintro e w' ⟨rfl, ⟨nd, rfl⟩⟩; refine ⟨_, rfl, ?_⟩) | (go_at_call 8; (with_reducible refine (name_Under.calls (⟨#[97, 98]⟩ : ByteArray) (⟨#[97]⟩ : ByteArray) true _ A5.out).mono ?_); rintro e w' ⟨rfl, ⟨nd, rfl⟩⟩))
      go_ret
      exact ⟨by first | rfl | (simp; done) | (simp [*]; done), by repeat (first | exact Drawn0.refl _ | apply Drawn0.step)⟩
    · replace c6 := Bool.eq_false_iff.mpr c6
      subst c6
      have H1 : ((name_Under.f a0 a1).bind fun t105 => ((depotref05_Under.f a0 a1).bind fun t106 => (some (t105 == t106)))) = some r := by rw [if_neg (show ¬ (false = true) by decide)] at H; exact H
      clear H
      have H := H1
      clear H1
      replace H := Option.bind_eq_some_iff.mp H
      obtain ⟨t105, A70, H⟩ := H
      replace H : ((depotref05_Under.f a0 a1).bind fun t106 => (some (t105 == t106))) = some r := H
      have A7 := Aside0.mk A70
      clear A70
      replace H := Option.bind_eq_some_iff.mp H
      obtain ⟨t106, A80, H⟩ := H
      replace H : (some (t105 == t106)) = some r := H
      have A8 := Aside0.mk A80
      clear A80
      obtain rfl := Option.some.inj H
      go_enter Try.func3, Try.ntmps3
      go_wp2_with (first | ((with_reducible refine gate_callee (f := 8) rfl ?_); refine goesL_ (some 5) rfl rfl Try.func8 (by kernel_rfl) rfl #[.string (⟨#[97, 47, 98]⟩ : ByteArray), .string (⟨#[97]⟩ : ByteArray)] rfl (by (try simp only [List.map_toArray, List.map_cons, List.map_nil]); first | done | rfl | (simp only [List.length_drop, List.length_take]; rfl)) ?_; (with_reducible refine (name_Under.calls (⟨#[97, 47, 98]⟩ : ByteArray) (⟨#[97]⟩ : ByteArray) true _ A3.out).mono ?_); rintro e w' ⟨rfl, ⟨nd, rfl⟩⟩; refine ⟨_, rfl, ?_⟩) | (go_at_call 8; (with_reducible refine (name_Under.calls (⟨#[97, 98]⟩ : ByteArray) (⟨#[97]⟩ : ByteArray) false _ A5.out).mono ?_); rintro e w' ⟨rfl, ⟨nd, rfl⟩⟩) | (go_at_call 8; (with_reducible refine (name_Under.calls a0 a1 t105 _ A7.out).mono ?_); rintro e w' ⟨rfl, ⟨nd, rfl⟩⟩) | (go_at_call 9; (with_reducible refine (depotref05_Under.calls a0 a1 t106 _ A8.out).mono ?_); rintro e w' ⟨rfl, ⟨nd, rfl⟩⟩))
      go_ret
      exact ⟨by first | rfl | (simp; done) | (simp [*]; done), by repeat (first | exact Drawn0.refl _ | apply Drawn0.step)⟩
  · replace c4 := Bool.eq_false_iff.mpr c4
    subst c4
    have H1 : (some false) = some r := by rw [if_neg (show ¬ (false = true) by decide)] at H; exact H
    clear H
    have H := H1
    clear H1
    obtain rfl := Option.some.inj H
    go_enter Try.func3, Try.ntmps3
    go_wp2_with (first | ((with_reducible refine gate_callee (f := 8) rfl ?_); refine goesL_ (some 5) rfl rfl Try.func8 (by kernel_rfl) rfl #[.string (⟨#[97, 47, 98]⟩ : ByteArray), .string (⟨#[97]⟩ : ByteArray)] rfl (by (try simp only [List.map_toArray, List.map_cons, List.map_nil]); first | done | rfl | (simp only [List.length_drop, List.length_take]; rfl)) ?_; (with_reducible refine (name_Under.calls (⟨#[97, 47, 98]⟩ : ByteArray) (⟨#[97]⟩ : ByteArray) false _ A3.out).mono ?_); rintro e w' ⟨rfl, ⟨nd, rfl⟩⟩; refine ⟨_, rfl, ?_⟩))
    go_ret
    exact ⟨by first | rfl | (simp; done) | (simp [*]; done), by repeat (first | exact Drawn0.refl _ | apply Drawn0.step)⟩

/-- THE ONE PURE STATEMENT of depotlaw05_NameUnders: yours. -/
def depotlaw05_NameUnders.Pure : Prop := ∀ (a0 : ByteArray) (a1 : ByteArray), a0.size ≤ 140737488351232 → a1.size ≤ 140737488351232 → depotlaw05_NameUnders.f a0 a1 = some true
theorem depotlaw05_NameUnders.walk (P : depotlaw05_NameUnders.Pure) (a0 : ByteArray) (a1 : ByteArray) (w : World) (w0 : a0.size ≤ 140737488351232) (w1 : a1.size ≤ 140737488351232) :
    Calls Try.prog 3 #[.string a0, .string a1] w fun e w' => e = .returned (.bool true) ∧ Below w.heap.size w w' := by
  have h := P a0 a1 w0 w1
  refine (depotlaw05_NameUnders.calls a0 a1 true w h).mono ?_
  rintro e w' ⟨rfl, hd⟩
  exact ⟨rfl, hd.below⟩

end Go.Proofs.Ytabgpdpdgkgmbaa.Q
