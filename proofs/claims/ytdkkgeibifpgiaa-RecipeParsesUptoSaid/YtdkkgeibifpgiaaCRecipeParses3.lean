/- Texts of this claim, put together: Q25, RcPure6, RcPure7, ExtBack, ExtParses, PdRecipeParses, PureRecipeParses, Opens. -/
import Derived.Test.YtdkkgeibifpgiaaQ0
import Derived.Test.YtdkkgeibifpgiaaCRecipeParses1
import Derived.Test.YtdkkgeibifpgiaaCRecipeParses2
import Derived.Deep.DrawnRows
import Derived.Test.YtdkkgeibifpgiaaRows
import Derived.Test.YtdkkgeibifpgiaaWWords
import Derived.Test.YtdkkgeibifpgiaaWLast
import Derived.Deep.Slices
import Derived.ProofKit
import Derived.SizedLaws
/- By a program of this session's: a plain Lean function for a Go function, and its contract. -/
namespace Go.Proofs.Ytdkkgeibifpgiaa.Q
open Go.RowKit Go.Proofs.YtdkkgeibifpgiaaW.PrintWords Go.Proofs.YtdkkgeibifpgiaaW.PrintLast Go.Proofs.YtdkkgeibifpgiaaW.PrintMore
attribute [local go_sem] max2_int min2_int max_two min_two max_three min_three max_four min_four Go.Proofs.Ytdkkgeibifpgiaa.Ord.str_leq Go.Proofs.Ytdkkgeibifpgiaa.Ord.str_gtr Go.Proofs.Ytdkkgeibifpgiaa.Ord.str_geq   -- for this text's walks alone
set_option linter.unusedVariables false
set_option linter.unusedSimpArgs false

/-! ### depotref21_Parse: function 10 -/
def depotref21_Parse.f (k : Nat) (a0 : ByteArray) : Option (ByteArray × List ByteArray × (List (S66)) × Int × Bool) := (depotref21_word.f k a0 0 (⟨#[82, 101, 99, 105, 112, 101, 40]⟩ : ByteArray)).bind fun bt198 => (if bt198.2 = true then ((depotref21_str.f k a0 bt198.1).bind fun bt200 => (if bt200.2.2 = true then ((depotref21_word.f k a0 bt200.2.1 (⟨#[44, 91]⟩ : ByteArray)).bind fun bt203 => (if bt203.2 = true then ((depotref21_strs.f k a0 bt203.1 (⟨#[93]⟩ : ByteArray) true).bind fun bt205 => (if bt205.2.2 = true then ((depotref21_word.f k a0 bt205.2.1 (⟨#[44, 91]⟩ : ByteArray)).bind fun bt210 => (if bt210.2 = true then ((depotref21_steps.f k a0 bt210.1).bind fun bt212 => (if bt212.2.2 = true then ((depotref21_word.f k a0 bt212.2.1 (⟨#[41]⟩ : ByteArray)).bind fun bt217 => (if bt217.2 = true then (if bt217.1 < (a0.size : Int) then (some ((⟨#[]⟩ : ByteArray), ([] : List ByteArray), ([] : List (S66)), bt217.1, false)) else (some (bt200.1, bt205.1, bt212.1, 0, true))) else (some ((⟨#[]⟩ : ByteArray), ([] : List ByteArray), ([] : List (S66)), bt217.1, false)))) else (some ((⟨#[]⟩ : ByteArray), ([] : List ByteArray), ([] : List (S66)), bt212.2.1, false)))) else (some ((⟨#[]⟩ : ByteArray), ([] : List ByteArray), ([] : List (S66)), bt210.1, false)))) else (some ((⟨#[]⟩ : ByteArray), ([] : List ByteArray), ([] : List (S66)), bt205.2.1, false)))) else (some ((⟨#[]⟩ : ByteArray), ([] : List ByteArray), ([] : List (S66)), bt203.1, false)))) else (some ((⟨#[]⟩ : ByteArray), ([] : List ByteArray), ([] : List (S66)), bt200.2.1, false)))) else (some ((⟨#[]⟩ : ByteArray), ([] : List ByteArray), ([] : List (S66)), bt198.1, false)))
theorem depotref21_Parse.mono : ∀ a0 k, LeO (depotref21_Parse.f k a0) (depotref21_Parse.f (k + 1) a0) := by
  intro a0 k
  unfold depotref21_Parse.f
  repeat' first
      | (with_reducible exact depotref21_steps.mono _ _ _)
      | (with_reducible exact depotref21_str.mono _ _ _)
      | (with_reducible exact depotref21_strs.mono _ _ _ _ _)
      | (with_reducible exact depotref21_word.mono _ _ _ _)
      | (with_reducible exact LeO.refl _)
      | (with_reducible exact LeO.none _)
      | (with_reducible refine LeO.ite ?_ ?_)
      | (with_reducible refine LeO.bind ?_ (fun _ => ?_))
      | exact depotref21_steps.mono _ _ _
      | exact depotref21_str.mono _ _ _
      | exact depotref21_strs.mono _ _ _ _ _
      | exact depotref21_word.mono _ _ _ _
      | exact LeO.none _
      | refine LeO.ite ?_ ?_
      | refine LeO.bind ?_ (fun _ => ?_)
set_option maxHeartbeats 8000000 in
set_option maxRecDepth 100000 in
theorem depotref21_Parse.calls (k : Nat) (a0 : ByteArray) (r1 : ByteArray) (r2 : List ByteArray) (r3 : List (S66)) (r4 : Int) (r5 : Bool) (w : World) (h : depotref21_Parse.f k a0 = some (r1, r2, r3, r4, r5)) :
    Calls Try.prog 10 #[.string a0] w fun e w' => ∃ v1_ v2_ : Value, e = .returned (.tuple #[.agg #[.string r1, v1_, v2_], .int .i64 r4, .bool r5]) ∧ Kd.R Kd.string 9 w' w.heap.size (fun k_ => (w.heap.size ≤ k_)) v1_ r2 ∧ Kd.N k66 66 w' w.heap.size (fun k_ => (w.heap.size ≤ k_) ∧ some k_ ≠ (v1_ : Value).ownBlock) v2_ r3 ∧ Below w.heap.size w w' := by
  have hu33 := Try.underlying33
  have HB := Aside0.mk (Below.refl w.heap.size w)
  have H : ((depotref21_word.f k a0 0 (⟨#[82, 101, 99, 105, 112, 101, 40]⟩ : ByteArray)).bind fun bt198 => (if bt198.2 = true then ((depotref21_str.f k a0 bt198.1).bind fun bt200 => (if bt200.2.2 = true then ((depotref21_word.f k a0 bt200.2.1 (⟨#[44, 91]⟩ : ByteArray)).bind fun bt203 => (if bt203.2 = true then ((depotref21_strs.f k a0 bt203.1 (⟨#[93]⟩ : ByteArray) true).bind fun bt205 => (if bt205.2.2 = true then ((depotref21_word.f k a0 bt205.2.1 (⟨#[44, 91]⟩ : ByteArray)).bind fun bt210 => (if bt210.2 = true then ((depotref21_steps.f k a0 bt210.1).bind fun bt212 => (if bt212.2.2 = true then ((depotref21_word.f k a0 bt212.2.1 (⟨#[41]⟩ : ByteArray)).bind fun bt217 => (if bt217.2 = true then (if bt217.1 < (a0.size : Int) then (some ((⟨#[]⟩ : ByteArray), ([] : List ByteArray), ([] : List (S66)), bt217.1, false)) else (some (bt200.1, bt205.1, bt212.1, 0, true))) else (some ((⟨#[]⟩ : ByteArray), ([] : List ByteArray), ([] : List (S66)), bt217.1, false)))) else (some ((⟨#[]⟩ : ByteArray), ([] : List ByteArray), ([] : List (S66)), bt212.2.1, false)))) else (some ((⟨#[]⟩ : ByteArray), ([] : List ByteArray), ([] : List (S66)), bt210.1, false)))) else (some ((⟨#[]⟩ : ByteArray), ([] : List ByteArray), ([] : List (S66)), bt205.2.1, false)))) else (some ((⟨#[]⟩ : ByteArray), ([] : List ByteArray), ([] : List (S66)), bt203.1, false)))) else (some ((⟨#[]⟩ : ByteArray), ([] : List ByteArray), ([] : List (S66)), bt200.2.1, false)))) else (some ((⟨#[]⟩ : ByteArray), ([] : List ByteArray), ([] : List (S66)), bt198.1, false)))) = some (r1, r2, r3, r4, r5) := h
  clear h
  replace H := Option.bind_eq_some_iff.mp H
  obtain ⟨⟨t198, t199⟩, A20, H⟩ := H
  replace H : (if t199 = true then ((depotref21_str.f k a0 t198).bind fun bt200 => (if bt200.2.2 = true then ((depotref21_word.f k a0 bt200.2.1 (⟨#[44, 91]⟩ : ByteArray)).bind fun bt203 => (if bt203.2 = true then ((depotref21_strs.f k a0 bt203.1 (⟨#[93]⟩ : ByteArray) true).bind fun bt205 => (if bt205.2.2 = true then ((depotref21_word.f k a0 bt205.2.1 (⟨#[44, 91]⟩ : ByteArray)).bind fun bt210 => (if bt210.2 = true then ((depotref21_steps.f k a0 bt210.1).bind fun bt212 => (if bt212.2.2 = true then ((depotref21_word.f k a0 bt212.2.1 (⟨#[41]⟩ : ByteArray)).bind fun bt217 => (if bt217.2 = true then (if bt217.1 < (a0.size : Int) then (some ((⟨#[]⟩ : ByteArray), ([] : List ByteArray), ([] : List (S66)), bt217.1, false)) else (some (bt200.1, bt205.1, bt212.1, 0, true))) else (some ((⟨#[]⟩ : ByteArray), ([] : List ByteArray), ([] : List (S66)), bt217.1, false)))) else (some ((⟨#[]⟩ : ByteArray), ([] : List ByteArray), ([] : List (S66)), bt212.2.1, false)))) else (some ((⟨#[]⟩ : ByteArray), ([] : List ByteArray), ([] : List (S66)), bt210.1, false)))) else (some ((⟨#[]⟩ : ByteArray), ([] : List ByteArray), ([] : List (S66)), bt205.2.1, false)))) else (some ((⟨#[]⟩ : ByteArray), ([] : List ByteArray), ([] : List (S66)), bt203.1, false)))) else (some ((⟨#[]⟩ : ByteArray), ([] : List ByteArray), ([] : List (S66)), bt200.2.1, false)))) else (some ((⟨#[]⟩ : ByteArray), ([] : List ByteArray), ([] : List (S66)), t198, false))) = some (r1, r2, r3, r4, r5) := H
  have A2 := Aside0.mk A20
  clear A20
  by_cases c3 : t199 = true
  · subst c3
    have H1 : ((depotref21_str.f k a0 t198).bind fun bt200 => (if bt200.2.2 = true then ((depotref21_word.f k a0 bt200.2.1 (⟨#[44, 91]⟩ : ByteArray)).bind fun bt203 => (if bt203.2 = true then ((depotref21_strs.f k a0 bt203.1 (⟨#[93]⟩ : ByteArray) true).bind fun bt205 => (if bt205.2.2 = true then ((depotref21_word.f k a0 bt205.2.1 (⟨#[44, 91]⟩ : ByteArray)).bind fun bt210 => (if bt210.2 = true then ((depotref21_steps.f k a0 bt210.1).bind fun bt212 => (if bt212.2.2 = true then ((depotref21_word.f k a0 bt212.2.1 (⟨#[41]⟩ : ByteArray)).bind fun bt217 => (if bt217.2 = true then (if bt217.1 < (a0.size : Int) then (some ((⟨#[]⟩ : ByteArray), ([] : List ByteArray), ([] : List (S66)), bt217.1, false)) else (some (bt200.1, bt205.1, bt212.1, 0, true))) else (some ((⟨#[]⟩ : ByteArray), ([] : List ByteArray), ([] : List (S66)), bt217.1, false)))) else (some ((⟨#[]⟩ : ByteArray), ([] : List ByteArray), ([] : List (S66)), bt212.2.1, false)))) else (some ((⟨#[]⟩ : ByteArray), ([] : List ByteArray), ([] : List (S66)), bt210.1, false)))) else (some ((⟨#[]⟩ : ByteArray), ([] : List ByteArray), ([] : List (S66)), bt205.2.1, false)))) else (some ((⟨#[]⟩ : ByteArray), ([] : List ByteArray), ([] : List (S66)), bt203.1, false)))) else (some ((⟨#[]⟩ : ByteArray), ([] : List ByteArray), ([] : List (S66)), bt200.2.1, false)))) = some (r1, r2, r3, r4, r5) := by rw [if_pos rfl] at H; exact H
    clear H
    have H := H1
    clear H1
    replace H := Option.bind_eq_some_iff.mp H
    obtain ⟨⟨t200, t201, t202⟩, A40, H⟩ := H
    replace H : (if t202 = true then ((depotref21_word.f k a0 t201 (⟨#[44, 91]⟩ : ByteArray)).bind fun bt203 => (if bt203.2 = true then ((depotref21_strs.f k a0 bt203.1 (⟨#[93]⟩ : ByteArray) true).bind fun bt205 => (if bt205.2.2 = true then ((depotref21_word.f k a0 bt205.2.1 (⟨#[44, 91]⟩ : ByteArray)).bind fun bt210 => (if bt210.2 = true then ((depotref21_steps.f k a0 bt210.1).bind fun bt212 => (if bt212.2.2 = true then ((depotref21_word.f k a0 bt212.2.1 (⟨#[41]⟩ : ByteArray)).bind fun bt217 => (if bt217.2 = true then (if bt217.1 < (a0.size : Int) then (some ((⟨#[]⟩ : ByteArray), ([] : List ByteArray), ([] : List (S66)), bt217.1, false)) else (some (t200, bt205.1, bt212.1, 0, true))) else (some ((⟨#[]⟩ : ByteArray), ([] : List ByteArray), ([] : List (S66)), bt217.1, false)))) else (some ((⟨#[]⟩ : ByteArray), ([] : List ByteArray), ([] : List (S66)), bt212.2.1, false)))) else (some ((⟨#[]⟩ : ByteArray), ([] : List ByteArray), ([] : List (S66)), bt210.1, false)))) else (some ((⟨#[]⟩ : ByteArray), ([] : List ByteArray), ([] : List (S66)), bt205.2.1, false)))) else (some ((⟨#[]⟩ : ByteArray), ([] : List ByteArray), ([] : List (S66)), bt203.1, false)))) else (some ((⟨#[]⟩ : ByteArray), ([] : List ByteArray), ([] : List (S66)), t201, false))) = some (r1, r2, r3, r4, r5) := H
    have A4 := Aside0.mk A40
    clear A40
    by_cases c5 : t202 = true
    · subst c5
      have H1 : ((depotref21_word.f k a0 t201 (⟨#[44, 91]⟩ : ByteArray)).bind fun bt203 => (if bt203.2 = true then ((depotref21_strs.f k a0 bt203.1 (⟨#[93]⟩ : ByteArray) true).bind fun bt205 => (if bt205.2.2 = true then ((depotref21_word.f k a0 bt205.2.1 (⟨#[44, 91]⟩ : ByteArray)).bind fun bt210 => (if bt210.2 = true then ((depotref21_steps.f k a0 bt210.1).bind fun bt212 => (if bt212.2.2 = true then ((depotref21_word.f k a0 bt212.2.1 (⟨#[41]⟩ : ByteArray)).bind fun bt217 => (if bt217.2 = true then (if bt217.1 < (a0.size : Int) then (some ((⟨#[]⟩ : ByteArray), ([] : List ByteArray), ([] : List (S66)), bt217.1, false)) else (some (t200, bt205.1, bt212.1, 0, true))) else (some ((⟨#[]⟩ : ByteArray), ([] : List ByteArray), ([] : List (S66)), bt217.1, false)))) else (some ((⟨#[]⟩ : ByteArray), ([] : List ByteArray), ([] : List (S66)), bt212.2.1, false)))) else (some ((⟨#[]⟩ : ByteArray), ([] : List ByteArray), ([] : List (S66)), bt210.1, false)))) else (some ((⟨#[]⟩ : ByteArray), ([] : List ByteArray), ([] : List (S66)), bt205.2.1, false)))) else (some ((⟨#[]⟩ : ByteArray), ([] : List ByteArray), ([] : List (S66)), bt203.1, false)))) = some (r1, r2, r3, r4, r5) := by rw [if_pos rfl] at H; exact H
      clear H
      have H := H1
      clear H1
      replace H := Option.bind_eq_some_iff.mp H
      obtain ⟨⟨t203, t204⟩, A60, H⟩ := H
      replace H : (if t204 = true then ((depotref21_strs.f k a0 t203 (⟨#[93]⟩ : ByteArray) true).bind fun bt205 => (if bt205.2.2 = true then ((depotref21_word.f k a0 bt205.2.1 (⟨#[44, 91]⟩ : ByteArray)).bind fun bt210 => (if bt210.2 = true then ((depotref21_steps.f k a0 bt210.1).bind fun bt212 => (if bt212.2.2 = true then ((depotref21_word.f k a0 bt212.2.1 (⟨#[41]⟩ : ByteArray)).bind fun bt217 => (if bt217.2 = true then (if bt217.1 < (a0.size : Int) then (some ((⟨#[]⟩ : ByteArray), ([] : List ByteArray), ([] : List (S66)), bt217.1, false)) else (some (t200, bt205.1, bt212.1, 0, true))) else (some ((⟨#[]⟩ : ByteArray), ([] : List ByteArray), ([] : List (S66)), bt217.1, false)))) else (some ((⟨#[]⟩ : ByteArray), ([] : List ByteArray), ([] : List (S66)), bt212.2.1, false)))) else (some ((⟨#[]⟩ : ByteArray), ([] : List ByteArray), ([] : List (S66)), bt210.1, false)))) else (some ((⟨#[]⟩ : ByteArray), ([] : List ByteArray), ([] : List (S66)), bt205.2.1, false)))) else (some ((⟨#[]⟩ : ByteArray), ([] : List ByteArray), ([] : List (S66)), t203, false))) = some (r1, r2, r3, r4, r5) := H
      have A6 := Aside0.mk A60
      clear A60
      by_cases c7 : t204 = true
      · subst c7
        have H1 : ((depotref21_strs.f k a0 t203 (⟨#[93]⟩ : ByteArray) true).bind fun bt205 => (if bt205.2.2 = true then ((depotref21_word.f k a0 bt205.2.1 (⟨#[44, 91]⟩ : ByteArray)).bind fun bt210 => (if bt210.2 = true then ((depotref21_steps.f k a0 bt210.1).bind fun bt212 => (if bt212.2.2 = true then ((depotref21_word.f k a0 bt212.2.1 (⟨#[41]⟩ : ByteArray)).bind fun bt217 => (if bt217.2 = true then (if bt217.1 < (a0.size : Int) then (some ((⟨#[]⟩ : ByteArray), ([] : List ByteArray), ([] : List (S66)), bt217.1, false)) else (some (t200, bt205.1, bt212.1, 0, true))) else (some ((⟨#[]⟩ : ByteArray), ([] : List ByteArray), ([] : List (S66)), bt217.1, false)))) else (some ((⟨#[]⟩ : ByteArray), ([] : List ByteArray), ([] : List (S66)), bt212.2.1, false)))) else (some ((⟨#[]⟩ : ByteArray), ([] : List ByteArray), ([] : List (S66)), bt210.1, false)))) else (some ((⟨#[]⟩ : ByteArray), ([] : List ByteArray), ([] : List (S66)), bt205.2.1, false)))) = some (r1, r2, r3, r4, r5) := by rw [if_pos rfl] at H; exact H
        clear H
        have H := H1
        clear H1
        replace H := Option.bind_eq_some_iff.mp H
        obtain ⟨⟨t205, t206, t207⟩, A80, H⟩ := H
        replace H : (if t207 = true then ((depotref21_word.f k a0 t206 (⟨#[44, 91]⟩ : ByteArray)).bind fun bt210 => (if bt210.2 = true then ((depotref21_steps.f k a0 bt210.1).bind fun bt212 => (if bt212.2.2 = true then ((depotref21_word.f k a0 bt212.2.1 (⟨#[41]⟩ : ByteArray)).bind fun bt217 => (if bt217.2 = true then (if bt217.1 < (a0.size : Int) then (some ((⟨#[]⟩ : ByteArray), ([] : List ByteArray), ([] : List (S66)), bt217.1, false)) else (some (t200, t205, bt212.1, 0, true))) else (some ((⟨#[]⟩ : ByteArray), ([] : List ByteArray), ([] : List (S66)), bt217.1, false)))) else (some ((⟨#[]⟩ : ByteArray), ([] : List ByteArray), ([] : List (S66)), bt212.2.1, false)))) else (some ((⟨#[]⟩ : ByteArray), ([] : List ByteArray), ([] : List (S66)), bt210.1, false)))) else (some ((⟨#[]⟩ : ByteArray), ([] : List ByteArray), ([] : List (S66)), t206, false))) = some (r1, r2, r3, r4, r5) := H
        have A8 := Aside0.mk A80
        clear A80
        by_cases c9 : t207 = true
        · subst c9
          have H1 : ((depotref21_word.f k a0 t206 (⟨#[44, 91]⟩ : ByteArray)).bind fun bt210 => (if bt210.2 = true then ((depotref21_steps.f k a0 bt210.1).bind fun bt212 => (if bt212.2.2 = true then ((depotref21_word.f k a0 bt212.2.1 (⟨#[41]⟩ : ByteArray)).bind fun bt217 => (if bt217.2 = true then (if bt217.1 < (a0.size : Int) then (some ((⟨#[]⟩ : ByteArray), ([] : List ByteArray), ([] : List (S66)), bt217.1, false)) else (some (t200, t205, bt212.1, 0, true))) else (some ((⟨#[]⟩ : ByteArray), ([] : List ByteArray), ([] : List (S66)), bt217.1, false)))) else (some ((⟨#[]⟩ : ByteArray), ([] : List ByteArray), ([] : List (S66)), bt212.2.1, false)))) else (some ((⟨#[]⟩ : ByteArray), ([] : List ByteArray), ([] : List (S66)), bt210.1, false)))) = some (r1, r2, r3, r4, r5) := by rw [if_pos rfl] at H; exact H
          clear H
          have H := H1
          clear H1
          replace H := Option.bind_eq_some_iff.mp H
          obtain ⟨⟨t210, t211⟩, A100, H⟩ := H
          replace H : (if t211 = true then ((depotref21_steps.f k a0 t210).bind fun bt212 => (if bt212.2.2 = true then ((depotref21_word.f k a0 bt212.2.1 (⟨#[41]⟩ : ByteArray)).bind fun bt217 => (if bt217.2 = true then (if bt217.1 < (a0.size : Int) then (some ((⟨#[]⟩ : ByteArray), ([] : List ByteArray), ([] : List (S66)), bt217.1, false)) else (some (t200, t205, bt212.1, 0, true))) else (some ((⟨#[]⟩ : ByteArray), ([] : List ByteArray), ([] : List (S66)), bt217.1, false)))) else (some ((⟨#[]⟩ : ByteArray), ([] : List ByteArray), ([] : List (S66)), bt212.2.1, false)))) else (some ((⟨#[]⟩ : ByteArray), ([] : List ByteArray), ([] : List (S66)), t210, false))) = some (r1, r2, r3, r4, r5) := H
          have A10 := Aside0.mk A100
          clear A100
          by_cases c11 : t211 = true
          · subst c11
            have H1 : ((depotref21_steps.f k a0 t210).bind fun bt212 => (if bt212.2.2 = true then ((depotref21_word.f k a0 bt212.2.1 (⟨#[41]⟩ : ByteArray)).bind fun bt217 => (if bt217.2 = true then (if bt217.1 < (a0.size : Int) then (some ((⟨#[]⟩ : ByteArray), ([] : List ByteArray), ([] : List (S66)), bt217.1, false)) else (some (t200, t205, bt212.1, 0, true))) else (some ((⟨#[]⟩ : ByteArray), ([] : List ByteArray), ([] : List (S66)), bt217.1, false)))) else (some ((⟨#[]⟩ : ByteArray), ([] : List ByteArray), ([] : List (S66)), bt212.2.1, false)))) = some (r1, r2, r3, r4, r5) := by rw [if_pos rfl] at H; exact H
            clear H
            have H := H1
            clear H1
            replace H := Option.bind_eq_some_iff.mp H
            obtain ⟨⟨t212, t215, t216⟩, A120, H⟩ := H
            replace H : (if t216 = true then ((depotref21_word.f k a0 t215 (⟨#[41]⟩ : ByteArray)).bind fun bt217 => (if bt217.2 = true then (if bt217.1 < (a0.size : Int) then (some ((⟨#[]⟩ : ByteArray), ([] : List ByteArray), ([] : List (S66)), bt217.1, false)) else (some (t200, t205, t212, 0, true))) else (some ((⟨#[]⟩ : ByteArray), ([] : List ByteArray), ([] : List (S66)), bt217.1, false)))) else (some ((⟨#[]⟩ : ByteArray), ([] : List ByteArray), ([] : List (S66)), t215, false))) = some (r1, r2, r3, r4, r5) := H
            have A12 := Aside0.mk A120
            clear A120
            by_cases c13 : t216 = true
            · subst c13
              have H1 : ((depotref21_word.f k a0 t215 (⟨#[41]⟩ : ByteArray)).bind fun bt217 => (if bt217.2 = true then (if bt217.1 < (a0.size : Int) then (some ((⟨#[]⟩ : ByteArray), ([] : List ByteArray), ([] : List (S66)), bt217.1, false)) else (some (t200, t205, t212, 0, true))) else (some ((⟨#[]⟩ : ByteArray), ([] : List ByteArray), ([] : List (S66)), bt217.1, false)))) = some (r1, r2, r3, r4, r5) := by rw [if_pos rfl] at H; exact H
              clear H
              have H := H1
              clear H1
              replace H := Option.bind_eq_some_iff.mp H
              obtain ⟨⟨t217, t218⟩, A140, H⟩ := H
              replace H : (if t218 = true then (if t217 < (a0.size : Int) then (some ((⟨#[]⟩ : ByteArray), ([] : List ByteArray), ([] : List (S66)), t217, false)) else (some (t200, t205, t212, 0, true))) else (some ((⟨#[]⟩ : ByteArray), ([] : List ByteArray), ([] : List (S66)), t217, false))) = some (r1, r2, r3, r4, r5) := H
              have A14 := Aside0.mk A140
              clear A140
              by_cases c15 : t218 = true
              · subst c15
                have H1 : (if t217 < (a0.size : Int) then (some ((⟨#[]⟩ : ByteArray), ([] : List ByteArray), ([] : List (S66)), t217, false)) else (some (t200, t205, t212, 0, true))) = some (r1, r2, r3, r4, r5) := by rw [if_pos rfl] at H; exact H
                clear H
                have H := H1
                clear H1
                by_cases c16 : t217 < (a0.size : Int)
                · rw [if_pos c16] at H
                  have c16b0 : decide (t217 < (a0.size : Int)) = true := decide_eq_true c16
                  clear c16
                  simp only [Option.some.injEq, Prod.mk.injEq] at H
                  obtain ⟨rfl, rfl, rfl, rfl, rfl⟩ := H
                  go_enter Try.func10, Try.ntmps10
                  go_wp2_with (first | ((with_reducible refine gate_dst (N := 2) rfl ?_); (try (refine gate_guard (by rfl) ?_; dsimp only)); refine box_event ?hg (N := 2) ?hd (cs := #[.string (⟨#[]⟩ : ByteArray), .slice none 0 0, .slice none 0 0]) (t := 33) ?hr ?_; (case hd => rfl); (case hg => rfl); (case hr => first | (go_simp; done) | (go_simp; rfl)); intro gb196 hg w17 hbox hb; have n0_ := Aside0.mk (below_step (by repeat (first | (with_reducible first | exact HB.out | apply below_alloc | apply pw_below_drewN | apply below_drew1) | exact HB.out)) hb); have n1_ := Aside0.mk (hbox); have n2_ := Aside0.mk ((by rw [hg]; exact (below_size (by repeat (first | (with_reducible first | exact HB.out | apply below_alloc | apply pw_below_drewN | apply below_drew1) | exact HB.out))) : w.heap.size ≤ gb196)); have n3_ := Aside0.mk ((by rw [hg]; exact (below_size (by repeat (first | (with_reducible first | exact HB.out | apply below_alloc | apply pw_below_drewN | apply below_drew1) | exact HB.out))) : w.heap.size ≤ gb196)); clear HB; have HB := n0_; have BK196 := n1_; have GW196 := n2_; have GE196 := n3_; clear n0_ n1_ n2_ n3_; clear hb hbox hg) | ((with_reducible refine gate_dst (N := 5) rfl ?_); (try (refine gate_guard (by rfl) ?_; dsimp only)); refine box_event ?hg (N := 5) ?hd (cs := #[.string (⟨#[]⟩ : ByteArray), .slice none 0 0, .slice none 0 0]) (t := 33) ?hr ?_; (case hd => rfl); (case hg => rfl); (case hr => first | (go_simp; done) | (go_simp; rfl)); intro gb197 hg w18 hbox hb; have n0_ := Aside0.mk (blk_below (g := gb196) (o := .cells #[.string (⟨#[]⟩ : ByteArray), .slice none 0 0, .slice none 0 0] 33 (0, 0)) (by (with_reducible repeat (first | refine blk_drewN ?_ _ | refine blk_drew ?_ | refine blk_alloc ?_ _)); exact BK196.out) hb); have n1_ := Aside0.mk (below_step (by repeat (first | (with_reducible first | exact HB.out | apply below_alloc | apply pw_below_drewN | apply below_drew1 | refine below_set ?_ GE196.out) | exact HB.out)) hb); have n2_ := Aside0.mk (hbox); have n3_ := Aside0.mk ((by rw [hg]; exact (below_size (by repeat (first | (with_reducible first | exact HB.out | apply below_alloc | apply pw_below_drewN | apply below_drew1 | refine below_set ?_ GE196.out) | exact HB.out))) : w.heap.size ≤ gb197)); have n4_ := Aside0.mk ((by rw [hg]; exact (below_size (by repeat (first | (with_reducible first | exact HB.out | apply below_alloc | apply pw_below_drewN | apply below_drew1 | refine below_set ?_ GE196.out) | exact HB.out))) : w.heap.size ≤ gb197)); have n5_ := Aside0.mk ((by rw [hg]; exact Nat.ne_of_lt (blk_lt (g := gb196) (o := .cells #[.string (⟨#[]⟩ : ByteArray), .slice none 0 0, .slice none 0 0] 33 (0, 0)) (by (with_reducible repeat (first | refine blk_drewN ?_ _ | refine blk_drew ?_ | refine blk_alloc ?_ _)); exact BK196.out)) : gb196 ≠ gb197)); have n6_ := Aside0.mk ((by rw [hg]; exact Nat.ne_of_gt (blk_lt (g := gb196) (o := .cells #[.string (⟨#[]⟩ : ByteArray), .slice none 0 0, .slice none 0 0] 33 (0, 0)) (by (with_reducible repeat (first | refine blk_drewN ?_ _ | refine blk_drew ?_ | refine blk_alloc ?_ _)); exact BK196.out)) : gb197 ≠ gb196)); clear BK196; clear HB; have BK196 := n0_; have HB := n1_; have BK197 := n2_; have GW197 := n3_; have GE197 := n4_; have NB196_197 := n5_; have NB197_196 := n6_; clear n0_ n1_ n2_ n3_ n4_ n5_ n6_; clear hb hbox hg) | ((with_reducible refine gate_callee (f := 23) rfl ?_); refine goesL_ (some 10) rfl rfl Try.func23 (by kernel_rfl) rfl #[.string a0, .int .i64 0, .string (⟨#[82, 101, 99, 105, 112, 101, 40]⟩ : ByteArray)] rfl (by (try simp only [List.map_toArray, List.map_cons, List.map_nil]); first | done | rfl | (simp only [List.length_drop, List.length_take]; rfl)) ?_; (with_reducible refine (depotref21_word.calls k a0 0 (⟨#[82, 101, 99, 105, 112, 101, 40]⟩ : ByteArray) t198 true _ A2.out).mono ?_); rintro e w' ⟨rfl, ⟨nd, rfl⟩⟩; refine ⟨_, rfl, ?_⟩; (try (rw [drewN_self w18]; generalize hq_ : World.drewN w18 _ = w18; have n0_ : Aside0 (w18.heap[gb196]? = some (.cells #[.string (⟨#[]⟩ : ByteArray), .slice none 0 0, .slice none 0 0] 33 (0, 0))) := ⟨by rw [← hq_]; exact (by (with_reducible repeat (first | refine blk_drewN ?_ _ | refine blk_drew ?_ | refine blk_alloc ?_ _)); exact BK196.out)⟩; have n1_ : Aside0 (w18.heap[gb197]? = some (.cells #[.string (⟨#[]⟩ : ByteArray), .slice none 0 0, .slice none 0 0] 33 (0, 0))) := ⟨by rw [← hq_]; exact (by (with_reducible repeat (first | refine blk_drewN ?_ _ | refine blk_drew ?_ | refine blk_alloc ?_ _)); exact BK197.out)⟩; have n2_ : Aside0 (Below w.heap.size w w18) := ⟨by rw [← hq_]; exact (by repeat (first | (with_reducible first | exact HB.out | apply below_alloc | apply pw_below_drewN | apply below_drew1 | refine below_set ?_ GE196.out | refine below_set ?_ GE197.out) | exact HB.out))⟩; clear BK196 BK197 HB hq_; have BK196 := n0_; have BK197 := n1_; have HB := n2_; clear n0_ n1_ n2_))) | ((with_reducible refine gate_callee (f := 24) rfl ?_); refine goesL_ (some 20) rfl rfl Try.func24 (by kernel_rfl) rfl #[.string a0, .int .i64 t198] rfl (by (try simp only [List.map_toArray, List.map_cons, List.map_nil]); first | done | rfl | (simp only [List.length_drop, List.length_take]; rfl)) ?_; (with_reducible refine (depotref21_str.calls k a0 t198 t200 t201 true _ A4.out).mono ?_); rintro e w19 ⟨rfl, hb⟩; refine ⟨_, rfl, ?_⟩; have n0_ := Aside0.mk (blk_below (g := gb196) (o := .cells #[.string (⟨#[]⟩ : ByteArray), .slice none 0 0, .slice none 0 0] 33 (0, 0)) (by (with_reducible repeat (first | refine blk_drewN ?_ _ | refine blk_drew ?_ | refine blk_alloc ?_ _)); exact BK196.out) hb); have n1_ := Aside0.mk (blk_below (g := gb197) (o := .cells #[.string (⟨#[]⟩ : ByteArray), .slice none 0 0, .slice none 0 0] 33 (0, 0)) (by (with_reducible repeat (first | refine blk_drewN ?_ _ | refine blk_drew ?_ | refine blk_alloc ?_ _)); exact BK197.out) hb); have n2_ := Aside0.mk (below_step (by repeat (first | (with_reducible first | exact HB.out | apply below_alloc | apply pw_below_drewN | apply below_drew1 | refine below_set ?_ GE196.out | refine below_set ?_ GE197.out) | exact HB.out)) hb); clear BK196; clear BK197; clear HB; have BK196 := n0_; have BK197 := n1_; have HB := n2_; clear n0_ n1_ n2_; (try clear hb); (try clear hb2); (try clear hk); (try clear hi); have hnb20 := NB197_196.out; have hnc20 := NB196_197.out; have hcz21_0 : w19.cell? ⟨gb197, 0, none⟩ = some (.string (⟨#[]⟩ : ByteArray)) := (blk_cell BK197.out 0).trans rfl; have hcz21_1 : w19.cell? ⟨gb197, 1, none⟩ = some (.slice none 0 0) := (blk_cell BK197.out 1).trans rfl; have hcz21_2 : w19.cell? ⟨gb197, 2, none⟩ = some (.slice none 0 0) := (blk_cell BK197.out 2).trans rfl; have hfz21_0 := blk_frozen BK197.out 0; have hfz21_1 := blk_frozen BK197.out 1; have hfz21_2 := blk_frozen BK197.out 2) | ((with_reducible refine gate_callee (f := 23) rfl ?_); refine goesL_ (some 32) rfl rfl Try.func23 (by kernel_rfl) rfl #[.string a0, .int .i64 t201, .string (⟨#[44, 91]⟩ : ByteArray)] rfl (by (try simp only [List.map_toArray, List.map_cons, List.map_nil]); first | done | rfl | (simp only [List.length_drop, List.length_take]; rfl)) ?_; (with_reducible refine (depotref21_word.calls k a0 t201 (⟨#[44, 91]⟩ : ByteArray) t203 true _ A6.out).mono ?_); rintro e w' ⟨rfl, ⟨nd, rfl⟩⟩; refine ⟨_, rfl, ?_⟩) | ((with_reducible refine gate_callee (f := 25) rfl ?_); refine goesL_ (some 42) rfl rfl Try.func25 (by kernel_rfl) rfl #[.string a0, .int .i64 t203, .string (⟨#[93]⟩ : ByteArray), .bool true] rfl (by (try simp only [List.map_toArray, List.map_cons, List.map_nil]); first | done | rfl | (simp only [List.length_drop, List.length_take]; rfl)) ?_; (with_reducible refine (depotref21_strs.calls k a0 t203 (⟨#[93]⟩ : ByteArray) true t205 t206 true _ A8.out).mono ?_); rintro e w22 ⟨v208, rfl, ho0, hb⟩; refine ⟨_, rfl, ?_⟩; have n0_ := Aside0.mk (Kd.R_lower (Kd.R_newM (M := fun k_ => (w.heap.size ≤ k_)) ho0 (below_size (by repeat (first | (with_reducible first | exact HB.out | apply below_alloc | apply pw_below_drewN | apply below_drew1 | refine below_set ?_ GE196.out | refine below_set ?_ GE197.out) | exact HB.out))) (fun k_ h_ => h_)) (below_size (by repeat (first | (with_reducible first | exact HB.out | apply below_alloc | apply pw_below_drewN | apply below_drew1 | refine below_set ?_ GE196.out | refine below_set ?_ GE197.out) | exact HB.out)))); have n1_ := Aside0.mk (blk_below (g := gb196) (o := .cells #[.string (⟨#[]⟩ : ByteArray), .slice none 0 0, .slice none 0 0] 33 (0, 0)) (by (with_reducible repeat (first | refine blk_drewN ?_ _ | refine blk_drew ?_ | refine blk_alloc ?_ _)); refine blk_far ?_ NB196_197.out _; (with_reducible repeat (first | refine blk_drewN ?_ _ | refine blk_drew ?_ | refine blk_alloc ?_ _)); exact BK196.out) hb); have n2_ := Aside0.mk (blk_below (g := gb197) (o := .cells #[.string t200, .slice none 0 0, .slice none 0 0] 33 (0, 0)) (by (with_reducible repeat (first | refine blk_drewN ?_ _ | refine blk_drew ?_ | refine blk_alloc ?_ _)); refine blk_put (cs := #[.string (⟨#[]⟩ : ByteArray), .slice none 0 0, .slice none 0 0]) ?_ 0 _ rfl; (with_reducible repeat (first | refine blk_drewN ?_ _ | refine blk_drew ?_ | refine blk_alloc ?_ _)); exact BK197.out) hb); have n3_ := Aside0.mk (below_step (by repeat (first | (with_reducible first | exact HB.out | apply below_alloc | apply pw_below_drewN | apply below_drew1 | refine below_set ?_ GE196.out | refine below_set ?_ GE197.out) | exact HB.out)) hb); clear BK196; clear BK197; clear HB; have HO209 := n0_; have BK196 := n1_; have BK197 := n2_; have HB := n3_; clear n0_ n1_ n2_ n3_; (try clear hb); (try clear hb2); (try clear hk); (try clear hi); (try clear ho0); obtain ⟨Ao23, co23, eo23⟩ := Kd.R_slice HO209.out; subst eo23; have hcz24_0 : w22.cell? ⟨gb197, 0, none⟩ = some (.string t200) := (blk_cell BK197.out 0).trans rfl; have hcz24_1 : w22.cell? ⟨gb197, 1, none⟩ = some (.slice none 0 0) := (blk_cell BK197.out 1).trans rfl; have hcz24_2 : w22.cell? ⟨gb197, 2, none⟩ = some (.slice none 0 0) := (blk_cell BK197.out 2).trans rfl; have hfz24_0 := blk_frozen BK197.out 0; have hfz24_1 := blk_frozen BK197.out 1; have hfz24_2 := blk_frozen BK197.out 2) | ((with_reducible refine gate_callee (f := 23) rfl ?_); refine goesL_ (some 54) rfl rfl Try.func23 (by kernel_rfl) rfl #[.string a0, .int .i64 t206, .string (⟨#[44, 91]⟩ : ByteArray)] rfl (by (try simp only [List.map_toArray, List.map_cons, List.map_nil]); first | done | rfl | (simp only [List.length_drop, List.length_take]; rfl)) ?_; (with_reducible refine (depotref21_word.calls k a0 t206 (⟨#[44, 91]⟩ : ByteArray) t210 true _ A10.out).mono ?_); rintro e w' ⟨rfl, ⟨nd, rfl⟩⟩; refine ⟨_, rfl, ?_⟩) | ((with_reducible refine gate_callee (f := 26) rfl ?_); refine goesL_ (some 64) rfl rfl Try.func26 (by kernel_rfl) rfl #[.string a0, .int .i64 t210] rfl (by (try simp only [List.map_toArray, List.map_cons, List.map_nil]); first | done | rfl | (simp only [List.length_drop, List.length_take]; rfl)) ?_; (with_reducible refine (depotref21_steps.calls k a0 t210 t212 t215 true _ A12.out).mono ?_); rintro e w25 ⟨v213, rfl, ho0, hb⟩; refine ⟨_, rfl, ?_⟩; have n0_ := Aside0.mk (Kd.R_below (by (with_reducible repeat (first | apply Kd.R_alloc | apply Kd.R_drewN | apply Kd.R_drew)); exact (Kd.R_mono (Kd.R_far (p := ⟨gb197, 1, none⟩) (Kd.R_types HO209.out BK197.out (by decide)) (fun _ hk => hk.2) (.slice Ao23 t205.length co23)) (fun _ h_ => h_.1))) hb); have n1_ := Aside0.mk (Kd.N_lower (Kd.N_mono (ok' := fun k_ => (w.heap.size ≤ k_) ∧ some k_ ≠ (.slice Ao23 t205.length co23 : Value).ownBlock ∧ k_ ≠ gb196 ∧ k_ ≠ gb197) ho0 (fun k_ hk_ => ⟨(Nat.le_trans (below_size (by repeat (first | (with_reducible first | exact HB.out | apply below_alloc | apply pw_below_drewN | apply below_drew1 | refine below_set ?_ GE196.out | refine below_set ?_ GE197.out) | exact HB.out))) hk_), (Kd.fresh' (Kd.R_lt (by (with_reducible repeat (first | apply Kd.R_alloc | apply Kd.R_drewN | apply Kd.R_drew)); exact (Kd.R_mono (Kd.R_far (p := ⟨gb197, 1, none⟩) (Kd.R_types HO209.out BK197.out (by decide)) (fun _ hk => hk.2) (.slice Ao23 t205.length co23)) (fun _ h_ => h_.1)))) k_ hk_), (Kd.freshB (g := gb196) (o := .cells #[.string (⟨#[]⟩ : ByteArray), .slice none 0 0, .slice none 0 0] 33 (0, 0)) (by (with_reducible repeat (first | refine blk_drewN ?_ _ | refine blk_drew ?_ | refine blk_alloc ?_ _)); refine blk_far ?_ NB196_197.out _; (with_reducible repeat (first | refine blk_drewN ?_ _ | refine blk_drew ?_ | refine blk_alloc ?_ _)); exact BK196.out) k_ hk_), (Kd.freshB (g := gb197) (o := .cells #[.string t200, .slice Ao23 t205.length co23, .slice none 0 0] 33 (0, 0)) (by (with_reducible repeat (first | refine blk_drewN ?_ _ | refine blk_drew ?_ | refine blk_alloc ?_ _)); refine blk_put (cs := #[.string t200, .slice none 0 0, .slice none 0 0]) ?_ 1 _ rfl; (with_reducible repeat (first | refine blk_drewN ?_ _ | refine blk_drew ?_ | refine blk_alloc ?_ _)); exact BK197.out) k_ hk_)⟩)) (below_size (by repeat (first | (with_reducible first | exact HB.out | apply below_alloc | apply pw_below_drewN | apply below_drew1 | refine below_set ?_ GE196.out | refine below_set ?_ GE197.out) | exact HB.out)))); have n2_ := Aside0.mk (blk_below (g := gb196) (o := .cells #[.string (⟨#[]⟩ : ByteArray), .slice none 0 0, .slice none 0 0] 33 (0, 0)) (by (with_reducible repeat (first | refine blk_drewN ?_ _ | refine blk_drew ?_ | refine blk_alloc ?_ _)); refine blk_far ?_ NB196_197.out _; (with_reducible repeat (first | refine blk_drewN ?_ _ | refine blk_drew ?_ | refine blk_alloc ?_ _)); exact BK196.out) hb); have n3_ := Aside0.mk (blk_below (g := gb197) (o := .cells #[.string t200, .slice Ao23 t205.length co23, .slice none 0 0] 33 (0, 0)) (by (with_reducible repeat (first | refine blk_drewN ?_ _ | refine blk_drew ?_ | refine blk_alloc ?_ _)); refine blk_put (cs := #[.string t200, .slice none 0 0, .slice none 0 0]) ?_ 1 _ rfl; (with_reducible repeat (first | refine blk_drewN ?_ _ | refine blk_drew ?_ | refine blk_alloc ?_ _)); exact BK197.out) hb); have n4_ := Aside0.mk (below_step (by repeat (first | (with_reducible first | exact HB.out | apply below_alloc | apply pw_below_drewN | apply below_drew1 | refine below_set ?_ GE196.out | refine below_set ?_ GE197.out) | exact HB.out)) hb); clear HO209; clear BK196; clear BK197; clear HB; have HO209 := n0_; have HO214 := n1_; have BK196 := n2_; have BK197 := n3_; have HB := n4_; clear n0_ n1_ n2_ n3_ n4_; (try clear hb); (try clear hb2); (try clear hk); (try clear hi); (try clear ho0); obtain ⟨Ao26, co26, eo26⟩ := Kd.N_slice HO214.out; subst eo26; have hcz27_0 : w25.cell? ⟨gb197, 0, none⟩ = some (.string t200) := (blk_cell BK197.out 0).trans rfl; have hcz27_1 : w25.cell? ⟨gb197, 1, none⟩ = some (.slice Ao23 t205.length co23) := (blk_cell BK197.out 1).trans rfl; have hcz27_2 : w25.cell? ⟨gb197, 2, none⟩ = some (.slice none 0 0) := (blk_cell BK197.out 2).trans rfl; have hfz27_0 := blk_frozen BK197.out 0; have hfz27_1 := blk_frozen BK197.out 1; have hfz27_2 := blk_frozen BK197.out 2) | ((with_reducible refine gate_callee (f := 23) rfl ?_); refine goesL_ (some 76) rfl rfl Try.func23 (by kernel_rfl) rfl #[.string a0, .int .i64 t215, .string (⟨#[41]⟩ : ByteArray)] rfl (by (try simp only [List.map_toArray, List.map_cons, List.map_nil]); first | done | rfl | (simp only [List.length_drop, List.length_take]; rfl)) ?_; (with_reducible refine (depotref21_word.calls k a0 t215 (⟨#[41]⟩ : ByteArray) t217 true _ A14.out).mono ?_); rintro e w' ⟨rfl, ⟨nd, rfl⟩⟩; refine ⟨_, rfl, ?_⟩; have hcz28_0 : w25.cell? ⟨gb196, 0, none⟩ = some (.string (⟨#[]⟩ : ByteArray)) := (blk_cell BK196.out 0).trans rfl; have hcz28_1 : w25.cell? ⟨gb196, 1, none⟩ = some (.slice none 0 0) := (blk_cell BK196.out 1).trans rfl; have hcz28_2 : w25.cell? ⟨gb196, 2, none⟩ = some (.slice none 0 0) := (blk_cell BK196.out 2).trans rfl; have hfz28_0 := blk_frozen BK196.out 0; have hfz28_1 := blk_frozen BK196.out 1; have hfz28_2 := blk_frozen BK196.out 2))
                  refine bodyPost_ret (results_ctt rfl _ _ gb196 33 #[.string (⟨#[]⟩ : ByteArray), .slice none 0 0, .slice none 0 0] (0, 0) _ rfl (by (with_reducible repeat (first | refine blk_drewN ?_ _ | refine blk_drew ?_ | refine blk_alloc ?_ _)); refine blk_put (cs := #[.string (⟨#[]⟩ : ByteArray), .slice none 0 0, .slice none 0 0]) ?_ 2 _ rfl; (with_reducible repeat (first | refine blk_drewN ?_ _ | refine blk_drew ?_ | refine blk_alloc ?_ _)); refine blk_put (cs := #[.string (⟨#[]⟩ : ByteArray), .slice none 0 0, .slice none 0 0]) ?_ 1 _ rfl; (with_reducible repeat (first | refine blk_drewN ?_ _ | refine blk_drew ?_ | refine blk_alloc ?_ _)); refine blk_put (cs := #[.string (⟨#[]⟩ : ByteArray), .slice none 0 0, .slice none 0 0]) ?_ 0 _ rfl; (with_reducible repeat (first | refine blk_drewN ?_ _ | refine blk_drew ?_ | refine blk_alloc ?_ _)); refine blk_far ?_ NB196_197.out _; (with_reducible repeat (first | refine blk_drewN ?_ _ | refine blk_drew ?_ | refine blk_alloc ?_ _)); exact BK196.out) Try.underlying33 rfl (by kernel_rfl)) rfl ?_
                  exact ⟨_, _, by first | rfl | (simp [errW_none, errW_some] <;> rfl) | (simp [*, errW_none, errW_some] <;> rfl), by first | exact Kd.R_nil _ _ _ _ _ | exact Kd.N_nil _ _ _ _ _ | exact Kd.V_nil _ _ _ _ _ | exact Kd.Q_nil _ _ _ _ _ | exact Kd.S_nil _ _ _ _ _, by first | exact Kd.S_nil _ _ _ _ _ | exact Kd.N_nil _ _ _ _ _ | exact Kd.V_nil _ _ _ _ _ | exact Kd.Q_nil _ _ _ _ _ | exact Kd.R_nil _ _ _ _ _, by repeat (first | (with_reducible first | exact HB.out | apply below_alloc | apply pw_below_drewN | apply below_drew1 | refine below_set ?_ GE196.out | refine below_set ?_ GE197.out) | exact HB.out)⟩
                · rw [if_neg c16] at H
                  have c16b0 : decide (t217 < (a0.size : Int)) = false := decide_eq_false c16
                  clear c16
                  simp only [Option.some.injEq, Prod.mk.injEq] at H
                  obtain ⟨rfl, rfl, rfl, rfl, rfl⟩ := H
                  go_enter Try.func10, Try.ntmps10
                  go_wp2_with (first | ((with_reducible refine gate_dst (N := 2) rfl ?_); (try (refine gate_guard (by rfl) ?_; dsimp only)); refine box_event ?hg (N := 2) ?hd (cs := #[.string (⟨#[]⟩ : ByteArray), .slice none 0 0, .slice none 0 0]) (t := 33) ?hr ?_; (case hd => rfl); (case hg => rfl); (case hr => first | (go_simp; done) | (go_simp; rfl)); intro gb196 hg w29 hbox hb; have n0_ := Aside0.mk (below_step (by repeat (first | (with_reducible first | exact HB.out | apply below_alloc | apply pw_below_drewN | apply below_drew1) | exact HB.out)) hb); have n1_ := Aside0.mk (hbox); have n2_ := Aside0.mk ((by rw [hg]; exact (below_size (by repeat (first | (with_reducible first | exact HB.out | apply below_alloc | apply pw_below_drewN | apply below_drew1) | exact HB.out))) : w.heap.size ≤ gb196)); have n3_ := Aside0.mk ((by rw [hg]; exact (below_size (by repeat (first | (with_reducible first | exact HB.out | apply below_alloc | apply pw_below_drewN | apply below_drew1) | exact HB.out))) : w.heap.size ≤ gb196)); clear HB; have HB := n0_; have BK196 := n1_; have GW196 := n2_; have GE196 := n3_; clear n0_ n1_ n2_ n3_; clear hb hbox hg) | ((with_reducible refine gate_dst (N := 5) rfl ?_); (try (refine gate_guard (by rfl) ?_; dsimp only)); refine box_event ?hg (N := 5) ?hd (cs := #[.string (⟨#[]⟩ : ByteArray), .slice none 0 0, .slice none 0 0]) (t := 33) ?hr ?_; (case hd => rfl); (case hg => rfl); (case hr => first | (go_simp; done) | (go_simp; rfl)); intro gb197 hg w30 hbox hb; have n0_ := Aside0.mk (blk_below (g := gb196) (o := .cells #[.string (⟨#[]⟩ : ByteArray), .slice none 0 0, .slice none 0 0] 33 (0, 0)) (by (with_reducible repeat (first | refine blk_drewN ?_ _ | refine blk_drew ?_ | refine blk_alloc ?_ _)); exact BK196.out) hb); have n1_ := Aside0.mk (below_step (by repeat (first | (with_reducible first | exact HB.out | apply below_alloc | apply pw_below_drewN | apply below_drew1 | refine below_set ?_ GE196.out) | exact HB.out)) hb); have n2_ := Aside0.mk (hbox); have n3_ := Aside0.mk ((by rw [hg]; exact (below_size (by repeat (first | (with_reducible first | exact HB.out | apply below_alloc | apply pw_below_drewN | apply below_drew1 | refine below_set ?_ GE196.out) | exact HB.out))) : w.heap.size ≤ gb197)); have n4_ := Aside0.mk ((by rw [hg]; exact (below_size (by repeat (first | (with_reducible first | exact HB.out | apply below_alloc | apply pw_below_drewN | apply below_drew1 | refine below_set ?_ GE196.out) | exact HB.out))) : w.heap.size ≤ gb197)); have n5_ := Aside0.mk ((by rw [hg]; exact Nat.ne_of_lt (blk_lt (g := gb196) (o := .cells #[.string (⟨#[]⟩ : ByteArray), .slice none 0 0, .slice none 0 0] 33 (0, 0)) (by (with_reducible repeat (first | refine blk_drewN ?_ _ | refine blk_drew ?_ | refine blk_alloc ?_ _)); exact BK196.out)) : gb196 ≠ gb197)); have n6_ := Aside0.mk ((by rw [hg]; exact Nat.ne_of_gt (blk_lt (g := gb196) (o := .cells #[.string (⟨#[]⟩ : ByteArray), .slice none 0 0, .slice none 0 0] 33 (0, 0)) (by (with_reducible repeat (first | refine blk_drewN ?_ _ | refine blk_drew ?_ | refine blk_alloc ?_ _)); exact BK196.out)) : gb197 ≠ gb196)); clear BK196; clear HB; have BK196 := n0_; have HB := n1_; have BK197 := n2_; have GW197 := n3_; have GE197 := n4_; have NB196_197 := n5_; have NB197_196 := n6_; clear n0_ n1_ n2_ n3_ n4_ n5_ n6_; clear hb hbox hg) | ((with_reducible refine gate_callee (f := 23) rfl ?_); refine goesL_ (some 10) rfl rfl Try.func23 (by kernel_rfl) rfl #[.string a0, .int .i64 0, .string (⟨#[82, 101, 99, 105, 112, 101, 40]⟩ : ByteArray)] rfl (by (try simp only [List.map_toArray, List.map_cons, List.map_nil]); first | done | rfl | (simp only [List.length_drop, List.length_take]; rfl)) ?_; (with_reducible refine (depotref21_word.calls k a0 0 (⟨#[82, 101, 99, 105, 112, 101, 40]⟩ : ByteArray) t198 true _ A2.out).mono ?_); rintro e w' ⟨rfl, ⟨nd, rfl⟩⟩; refine ⟨_, rfl, ?_⟩; (try (rw [drewN_self w30]; generalize hq_ : World.drewN w30 _ = w30; have n0_ : Aside0 (w30.heap[gb196]? = some (.cells #[.string (⟨#[]⟩ : ByteArray), .slice none 0 0, .slice none 0 0] 33 (0, 0))) := ⟨by rw [← hq_]; exact (by (with_reducible repeat (first | refine blk_drewN ?_ _ | refine blk_drew ?_ | refine blk_alloc ?_ _)); exact BK196.out)⟩; have n1_ : Aside0 (w30.heap[gb197]? = some (.cells #[.string (⟨#[]⟩ : ByteArray), .slice none 0 0, .slice none 0 0] 33 (0, 0))) := ⟨by rw [← hq_]; exact (by (with_reducible repeat (first | refine blk_drewN ?_ _ | refine blk_drew ?_ | refine blk_alloc ?_ _)); exact BK197.out)⟩; have n2_ : Aside0 (Below w.heap.size w w30) := ⟨by rw [← hq_]; exact (by repeat (first | (with_reducible first | exact HB.out | apply below_alloc | apply pw_below_drewN | apply below_drew1 | refine below_set ?_ GE196.out | refine below_set ?_ GE197.out) | exact HB.out))⟩; clear BK196 BK197 HB hq_; have BK196 := n0_; have BK197 := n1_; have HB := n2_; clear n0_ n1_ n2_))) | ((with_reducible refine gate_callee (f := 24) rfl ?_); refine goesL_ (some 20) rfl rfl Try.func24 (by kernel_rfl) rfl #[.string a0, .int .i64 t198] rfl (by (try simp only [List.map_toArray, List.map_cons, List.map_nil]); first | done | rfl | (simp only [List.length_drop, List.length_take]; rfl)) ?_; (with_reducible refine (depotref21_str.calls k a0 t198 t200 t201 true _ A4.out).mono ?_); rintro e w31 ⟨rfl, hb⟩; refine ⟨_, rfl, ?_⟩; have n0_ := Aside0.mk (blk_below (g := gb196) (o := .cells #[.string (⟨#[]⟩ : ByteArray), .slice none 0 0, .slice none 0 0] 33 (0, 0)) (by (with_reducible repeat (first | refine blk_drewN ?_ _ | refine blk_drew ?_ | refine blk_alloc ?_ _)); exact BK196.out) hb); have n1_ := Aside0.mk (blk_below (g := gb197) (o := .cells #[.string (⟨#[]⟩ : ByteArray), .slice none 0 0, .slice none 0 0] 33 (0, 0)) (by (with_reducible repeat (first | refine blk_drewN ?_ _ | refine blk_drew ?_ | refine blk_alloc ?_ _)); exact BK197.out) hb); have n2_ := Aside0.mk (below_step (by repeat (first | (with_reducible first | exact HB.out | apply below_alloc | apply pw_below_drewN | apply below_drew1 | refine below_set ?_ GE196.out | refine below_set ?_ GE197.out) | exact HB.out)) hb); clear BK196; clear BK197; clear HB; have BK196 := n0_; have BK197 := n1_; have HB := n2_; clear n0_ n1_ n2_; (try clear hb); (try clear hb2); (try clear hk); (try clear hi); have hnb32 := NB197_196.out; have hnc32 := NB196_197.out; have hcz33_0 : w31.cell? ⟨gb197, 0, none⟩ = some (.string (⟨#[]⟩ : ByteArray)) := (blk_cell BK197.out 0).trans rfl; have hcz33_1 : w31.cell? ⟨gb197, 1, none⟩ = some (.slice none 0 0) := (blk_cell BK197.out 1).trans rfl; have hcz33_2 : w31.cell? ⟨gb197, 2, none⟩ = some (.slice none 0 0) := (blk_cell BK197.out 2).trans rfl; have hfz33_0 := blk_frozen BK197.out 0; have hfz33_1 := blk_frozen BK197.out 1; have hfz33_2 := blk_frozen BK197.out 2) | ((with_reducible refine gate_callee (f := 23) rfl ?_); refine goesL_ (some 32) rfl rfl Try.func23 (by kernel_rfl) rfl #[.string a0, .int .i64 t201, .string (⟨#[44, 91]⟩ : ByteArray)] rfl (by (try simp only [List.map_toArray, List.map_cons, List.map_nil]); first | done | rfl | (simp only [List.length_drop, List.length_take]; rfl)) ?_; (with_reducible refine (depotref21_word.calls k a0 t201 (⟨#[44, 91]⟩ : ByteArray) t203 true _ A6.out).mono ?_); rintro e w' ⟨rfl, ⟨nd, rfl⟩⟩; refine ⟨_, rfl, ?_⟩) | ((with_reducible refine gate_callee (f := 25) rfl ?_); refine goesL_ (some 42) rfl rfl Try.func25 (by kernel_rfl) rfl #[.string a0, .int .i64 t203, .string (⟨#[93]⟩ : ByteArray), .bool true] rfl (by (try simp only [List.map_toArray, List.map_cons, List.map_nil]); first | done | rfl | (simp only [List.length_drop, List.length_take]; rfl)) ?_; (with_reducible refine (depotref21_strs.calls k a0 t203 (⟨#[93]⟩ : ByteArray) true t205 t206 true _ A8.out).mono ?_); rintro e w34 ⟨v208, rfl, ho0, hb⟩; refine ⟨_, rfl, ?_⟩; have n0_ := Aside0.mk (Kd.R_lower (Kd.R_newM (M := fun k_ => (w.heap.size ≤ k_)) ho0 (below_size (by repeat (first | (with_reducible first | exact HB.out | apply below_alloc | apply pw_below_drewN | apply below_drew1 | refine below_set ?_ GE196.out | refine below_set ?_ GE197.out) | exact HB.out))) (fun k_ h_ => h_)) (below_size (by repeat (first | (with_reducible first | exact HB.out | apply below_alloc | apply pw_below_drewN | apply below_drew1 | refine below_set ?_ GE196.out | refine below_set ?_ GE197.out) | exact HB.out)))); have n1_ := Aside0.mk (blk_below (g := gb196) (o := .cells #[.string (⟨#[]⟩ : ByteArray), .slice none 0 0, .slice none 0 0] 33 (0, 0)) (by (with_reducible repeat (first | refine blk_drewN ?_ _ | refine blk_drew ?_ | refine blk_alloc ?_ _)); refine blk_far ?_ NB196_197.out _; (with_reducible repeat (first | refine blk_drewN ?_ _ | refine blk_drew ?_ | refine blk_alloc ?_ _)); exact BK196.out) hb); have n2_ := Aside0.mk (blk_below (g := gb197) (o := .cells #[.string t200, .slice none 0 0, .slice none 0 0] 33 (0, 0)) (by (with_reducible repeat (first | refine blk_drewN ?_ _ | refine blk_drew ?_ | refine blk_alloc ?_ _)); refine blk_put (cs := #[.string (⟨#[]⟩ : ByteArray), .slice none 0 0, .slice none 0 0]) ?_ 0 _ rfl; (with_reducible repeat (first | refine blk_drewN ?_ _ | refine blk_drew ?_ | refine blk_alloc ?_ _)); exact BK197.out) hb); have n3_ := Aside0.mk (below_step (by repeat (first | (with_reducible first | exact HB.out | apply below_alloc | apply pw_below_drewN | apply below_drew1 | refine below_set ?_ GE196.out | refine below_set ?_ GE197.out) | exact HB.out)) hb); clear BK196; clear BK197; clear HB; have HO209 := n0_; have BK196 := n1_; have BK197 := n2_; have HB := n3_; clear n0_ n1_ n2_ n3_; (try clear hb); (try clear hb2); (try clear hk); (try clear hi); (try clear ho0); obtain ⟨Ao35, co35, eo35⟩ := Kd.R_slice HO209.out; subst eo35; have hcz36_0 : w34.cell? ⟨gb197, 0, none⟩ = some (.string t200) := (blk_cell BK197.out 0).trans rfl; have hcz36_1 : w34.cell? ⟨gb197, 1, none⟩ = some (.slice none 0 0) := (blk_cell BK197.out 1).trans rfl; have hcz36_2 : w34.cell? ⟨gb197, 2, none⟩ = some (.slice none 0 0) := (blk_cell BK197.out 2).trans rfl; have hfz36_0 := blk_frozen BK197.out 0; have hfz36_1 := blk_frozen BK197.out 1; have hfz36_2 := blk_frozen BK197.out 2) | ((with_reducible refine gate_callee (f := 23) rfl ?_); refine goesL_ (some 54) rfl rfl Try.func23 (by kernel_rfl) rfl #[.string a0, .int .i64 t206, .string (⟨#[44, 91]⟩ : ByteArray)] rfl (by (try simp only [List.map_toArray, List.map_cons, List.map_nil]); first | done | rfl | (simp only [List.length_drop, List.length_take]; rfl)) ?_; (with_reducible refine (depotref21_word.calls k a0 t206 (⟨#[44, 91]⟩ : ByteArray) t210 true _ A10.out).mono ?_); rintro e w' ⟨rfl, ⟨nd, rfl⟩⟩; refine ⟨_, rfl, ?_⟩) | ((with_reducible refine gate_callee (f := 26) rfl ?_); refine goesL_ (some 64) rfl rfl Try.func26 (by kernel_rfl) rfl #[.string a0, .int .i64 t210] rfl (by (try simp only [List.map_toArray, List.map_cons, List.map_nil]); first | done | rfl | (simp only [List.length_drop, List.length_take]; rfl)) ?_; (with_reducible refine (depotref21_steps.calls k a0 t210 t212 t215 true _ A12.out).mono ?_); rintro e w37 ⟨v213, rfl, ho0, hb⟩; refine ⟨_, rfl, ?_⟩; have n0_ := Aside0.mk (Kd.R_below (by (with_reducible repeat (first | apply Kd.R_alloc | apply Kd.R_drewN | apply Kd.R_drew)); exact (Kd.R_mono (Kd.R_far (p := ⟨gb197, 1, none⟩) (Kd.R_types HO209.out BK197.out (by decide)) (fun _ hk => hk.2) (.slice Ao35 t205.length co35)) (fun _ h_ => h_.1))) hb); have n1_ := Aside0.mk (Kd.N_lower (Kd.N_mono (ok' := fun k_ => (w.heap.size ≤ k_) ∧ some k_ ≠ (.slice Ao35 t205.length co35 : Value).ownBlock ∧ k_ ≠ gb196 ∧ k_ ≠ gb197) ho0 (fun k_ hk_ => ⟨(Nat.le_trans (below_size (by repeat (first | (with_reducible first | exact HB.out | apply below_alloc | apply pw_below_drewN | apply below_drew1 | refine below_set ?_ GE196.out | refine below_set ?_ GE197.out) | exact HB.out))) hk_), (Kd.fresh' (Kd.R_lt (by (with_reducible repeat (first | apply Kd.R_alloc | apply Kd.R_drewN | apply Kd.R_drew)); exact (Kd.R_mono (Kd.R_far (p := ⟨gb197, 1, none⟩) (Kd.R_types HO209.out BK197.out (by decide)) (fun _ hk => hk.2) (.slice Ao35 t205.length co35)) (fun _ h_ => h_.1)))) k_ hk_), (Kd.freshB (g := gb196) (o := .cells #[.string (⟨#[]⟩ : ByteArray), .slice none 0 0, .slice none 0 0] 33 (0, 0)) (by (with_reducible repeat (first | refine blk_drewN ?_ _ | refine blk_drew ?_ | refine blk_alloc ?_ _)); refine blk_far ?_ NB196_197.out _; (with_reducible repeat (first | refine blk_drewN ?_ _ | refine blk_drew ?_ | refine blk_alloc ?_ _)); exact BK196.out) k_ hk_), (Kd.freshB (g := gb197) (o := .cells #[.string t200, .slice Ao35 t205.length co35, .slice none 0 0] 33 (0, 0)) (by (with_reducible repeat (first | refine blk_drewN ?_ _ | refine blk_drew ?_ | refine blk_alloc ?_ _)); refine blk_put (cs := #[.string t200, .slice none 0 0, .slice none 0 0]) ?_ 1 _ rfl; (with_reducible repeat (first | refine blk_drewN ?_ _ | refine blk_drew ?_ | refine blk_alloc ?_ _)); exact BK197.out) k_ hk_)⟩)) (below_size (by repeat (first | (with_reducible first | exact HB.out | apply below_alloc | apply pw_below_drewN | apply below_drew1 | refine below_set ?_ GE196.out | refine below_set ?_ GE197.out) | exact HB.out)))); have n2_ := Aside0.mk (blk_below (g := gb196) (o := .cells #[.string (⟨#[]⟩ : ByteArray), .slice none 0 0, .slice none 0 0] 33 (0, 0)) (by (with_reducible repeat (first | refine blk_drewN ?_ _ | refine blk_drew ?_ | refine blk_alloc ?_ _)); refine blk_far ?_ NB196_197.out _; (with_reducible repeat (first | refine blk_drewN ?_ _ | refine blk_drew ?_ | refine blk_alloc ?_ _)); exact BK196.out) hb); have n3_ := Aside0.mk (blk_below (g := gb197) (o := .cells #[.string t200, .slice Ao35 t205.length co35, .slice none 0 0] 33 (0, 0)) (by (with_reducible repeat (first | refine blk_drewN ?_ _ | refine blk_drew ?_ | refine blk_alloc ?_ _)); refine blk_put (cs := #[.string t200, .slice none 0 0, .slice none 0 0]) ?_ 1 _ rfl; (with_reducible repeat (first | refine blk_drewN ?_ _ | refine blk_drew ?_ | refine blk_alloc ?_ _)); exact BK197.out) hb); have n4_ := Aside0.mk (below_step (by repeat (first | (with_reducible first | exact HB.out | apply below_alloc | apply pw_below_drewN | apply below_drew1 | refine below_set ?_ GE196.out | refine below_set ?_ GE197.out) | exact HB.out)) hb); clear HO209; clear BK196; clear BK197; clear HB; have HO209 := n0_; have HO214 := n1_; have BK196 := n2_; have BK197 := n3_; have HB := n4_; clear n0_ n1_ n2_ n3_ n4_; (try clear hb); (try clear hb2); (try clear hk); (try clear hi); (try clear ho0); obtain ⟨Ao38, co38, eo38⟩ := Kd.N_slice HO214.out; subst eo38; have hcz39_0 : w37.cell? ⟨gb197, 0, none⟩ = some (.string t200) := (blk_cell BK197.out 0).trans rfl; have hcz39_1 : w37.cell? ⟨gb197, 1, none⟩ = some (.slice Ao35 t205.length co35) := (blk_cell BK197.out 1).trans rfl; have hcz39_2 : w37.cell? ⟨gb197, 2, none⟩ = some (.slice none 0 0) := (blk_cell BK197.out 2).trans rfl; have hfz39_0 := blk_frozen BK197.out 0; have hfz39_1 := blk_frozen BK197.out 1; have hfz39_2 := blk_frozen BK197.out 2) | ((with_reducible refine gate_callee (f := 23) rfl ?_); refine goesL_ (some 76) rfl rfl Try.func23 (by kernel_rfl) rfl #[.string a0, .int .i64 t215, .string (⟨#[41]⟩ : ByteArray)] rfl (by (try simp only [List.map_toArray, List.map_cons, List.map_nil]); first | done | rfl | (simp only [List.length_drop, List.length_take]; rfl)) ?_; (with_reducible refine (depotref21_word.calls k a0 t215 (⟨#[41]⟩ : ByteArray) t217 true _ A14.out).mono ?_); rintro e w' ⟨rfl, ⟨nd, rfl⟩⟩; refine ⟨_, rfl, ?_⟩; have hcz40_0 : w37.cell? ⟨gb196, 0, none⟩ = some (.string (⟨#[]⟩ : ByteArray)) := (blk_cell BK196.out 0).trans rfl; have hcz40_1 : w37.cell? ⟨gb196, 1, none⟩ = some (.slice none 0 0) := (blk_cell BK196.out 1).trans rfl; have hcz40_2 : w37.cell? ⟨gb196, 2, none⟩ = some (.slice none 0 0) := (blk_cell BK196.out 2).trans rfl; have hfz40_0 := blk_frozen BK196.out 0; have hfz40_1 := blk_frozen BK196.out 1; have hfz40_2 := blk_frozen BK196.out 2))
                  refine bodyPost_ret (results_ctt rfl _ _ gb196 33 #[.string t200, .slice Ao35 t205.length co35, .slice Ao38 t212.length co38] (0, 0) _ rfl (by (with_reducible repeat (first | refine blk_drewN ?_ _ | refine blk_drew ?_ | refine blk_alloc ?_ _)); refine blk_put (cs := #[.string t200, .slice Ao35 t205.length co35, .slice none 0 0]) ?_ 2 _ rfl; (with_reducible repeat (first | refine blk_drewN ?_ _ | refine blk_drew ?_ | refine blk_alloc ?_ _)); refine blk_put (cs := #[.string t200, .slice none 0 0, .slice none 0 0]) ?_ 1 _ rfl; (with_reducible repeat (first | refine blk_drewN ?_ _ | refine blk_drew ?_ | refine blk_alloc ?_ _)); refine blk_put (cs := #[.string (⟨#[]⟩ : ByteArray), .slice none 0 0, .slice none 0 0]) ?_ 0 _ rfl; (with_reducible repeat (first | refine blk_drewN ?_ _ | refine blk_drew ?_ | refine blk_alloc ?_ _)); refine blk_far ?_ NB196_197.out _; (with_reducible repeat (first | refine blk_drewN ?_ _ | refine blk_drew ?_ | refine blk_alloc ?_ _)); exact BK196.out) Try.underlying33 rfl (by kernel_rfl)) rfl ?_
                  exact ⟨_, _, by first | rfl | (simp [errW_none, errW_some] <;> rfl) | (simp [*, errW_none, errW_some] <;> rfl), by (with_reducible repeat (first | apply Kd.R_alloc | apply Kd.R_drewN | apply Kd.R_drew)); exact Kd.R_mono (Kd.R_far (p := ⟨gb196, 2, none⟩) (Kd.R_far (p := ⟨gb196, 1, none⟩) (Kd.R_far (p := ⟨gb196, 0, none⟩) (Kd.R_far (p := ⟨gb197, 2, none⟩) (Kd.R_types (Kd.R_types HO209.out BK197.out (by decide)) BK196.out (by decide)) (fun _ hk => hk.1.2) (.slice Ao38 t212.length co38)) (fun _ hk => hk.2) (.string t200)) (fun _ hk => hk.2) (.slice Ao35 t205.length co35)) (fun _ hk => hk.2) (.slice Ao38 t212.length co38)) (fun _ hk => hk.1.1.1), by (with_reducible repeat (first | apply Kd.N_alloc | apply Kd.N_drewN | apply Kd.N_drew)); exact Kd.N_mono (Kd.N_far (p := ⟨gb196, 2, none⟩) (Kd.N_far (p := ⟨gb196, 1, none⟩) (Kd.N_far (p := ⟨gb196, 0, none⟩) (Kd.N_far (p := ⟨gb197, 2, none⟩) (Kd.N_mono (Kd.N_mono HO214.out (fun k_ hk => (⟨hk, hk.2.2.2⟩ : _ ∧ k_ ≠ gb197))) (fun k_ hk => (⟨hk, hk.1.2.2.1⟩ : _ ∧ k_ ≠ gb196))) (fun _ hk => hk.1.2) (.slice Ao38 t212.length co38)) (fun _ hk => hk.2) (.string t200)) (fun _ hk => hk.2) (.slice Ao35 t205.length co35)) (fun _ hk => hk.2) (.slice Ao38 t212.length co38)) (fun _ hk => ⟨hk.1.1.1, hk.1.1.2.1⟩), by repeat (first | (with_reducible first | exact HB.out | apply below_alloc | apply pw_below_drewN | apply below_drew1 | refine below_set ?_ GE196.out | refine below_set ?_ GE197.out) | exact HB.out)⟩
              · replace c15 := Bool.eq_false_iff.mpr c15
                subst c15
                have H1 : (some ((⟨#[]⟩ : ByteArray), ([] : List ByteArray), ([] : List (S66)), t217, false)) = some (r1, r2, r3, r4, r5) := by rw [if_neg (show ¬ (false = true) by decide)] at H; exact H
                clear H
                have H := H1
                clear H1
                simp only [Option.some.injEq, Prod.mk.injEq] at H
                obtain ⟨rfl, rfl, rfl, rfl, rfl⟩ := H
                go_enter Try.func10, Try.ntmps10
                go_wp2_with (first | ((with_reducible refine gate_dst (N := 2) rfl ?_); (try (refine gate_guard (by rfl) ?_; dsimp only)); refine box_event ?hg (N := 2) ?hd (cs := #[.string (⟨#[]⟩ : ByteArray), .slice none 0 0, .slice none 0 0]) (t := 33) ?hr ?_; (case hd => rfl); (case hg => rfl); (case hr => first | (go_simp; done) | (go_simp; rfl)); intro gb196 hg w41 hbox hb; have n0_ := Aside0.mk (below_step (by repeat (first | (with_reducible first | exact HB.out | apply below_alloc | apply pw_below_drewN | apply below_drew1) | exact HB.out)) hb); have n1_ := Aside0.mk (hbox); have n2_ := Aside0.mk ((by rw [hg]; exact (below_size (by repeat (first | (with_reducible first | exact HB.out | apply below_alloc | apply pw_below_drewN | apply below_drew1) | exact HB.out))) : w.heap.size ≤ gb196)); have n3_ := Aside0.mk ((by rw [hg]; exact (below_size (by repeat (first | (with_reducible first | exact HB.out | apply below_alloc | apply pw_below_drewN | apply below_drew1) | exact HB.out))) : w.heap.size ≤ gb196)); clear HB; have HB := n0_; have BK196 := n1_; have GW196 := n2_; have GE196 := n3_; clear n0_ n1_ n2_ n3_; clear hb hbox hg) | ((with_reducible refine gate_dst (N := 5) rfl ?_); (try (refine gate_guard (by rfl) ?_; dsimp only)); refine box_event ?hg (N := 5) ?hd (cs := #[.string (⟨#[]⟩ : ByteArray), .slice none 0 0, .slice none 0 0]) (t := 33) ?hr ?_; (case hd => rfl); (case hg => rfl); (case hr => first | (go_simp; done) | (go_simp; rfl)); intro gb197 hg w42 hbox hb; have n0_ := Aside0.mk (blk_below (g := gb196) (o := .cells #[.string (⟨#[]⟩ : ByteArray), .slice none 0 0, .slice none 0 0] 33 (0, 0)) (by (with_reducible repeat (first | refine blk_drewN ?_ _ | refine blk_drew ?_ | refine blk_alloc ?_ _)); exact BK196.out) hb); have n1_ := Aside0.mk (below_step (by repeat (first | (with_reducible first | exact HB.out | apply below_alloc | apply pw_below_drewN | apply below_drew1 | refine below_set ?_ GE196.out) | exact HB.out)) hb); have n2_ := Aside0.mk (hbox); have n3_ := Aside0.mk ((by rw [hg]; exact (below_size (by repeat (first | (with_reducible first | exact HB.out | apply below_alloc | apply pw_below_drewN | apply below_drew1 | refine below_set ?_ GE196.out) | exact HB.out))) : w.heap.size ≤ gb197)); have n4_ := Aside0.mk ((by rw [hg]; exact (below_size (by repeat (first | (with_reducible first | exact HB.out | apply below_alloc | apply pw_below_drewN | apply below_drew1 | refine below_set ?_ GE196.out) | exact HB.out))) : w.heap.size ≤ gb197)); have n5_ := Aside0.mk ((by rw [hg]; exact Nat.ne_of_lt (blk_lt (g := gb196) (o := .cells #[.string (⟨#[]⟩ : ByteArray), .slice none 0 0, .slice none 0 0] 33 (0, 0)) (by (with_reducible repeat (first | refine blk_drewN ?_ _ | refine blk_drew ?_ | refine blk_alloc ?_ _)); exact BK196.out)) : gb196 ≠ gb197)); have n6_ := Aside0.mk ((by rw [hg]; exact Nat.ne_of_gt (blk_lt (g := gb196) (o := .cells #[.string (⟨#[]⟩ : ByteArray), .slice none 0 0, .slice none 0 0] 33 (0, 0)) (by (with_reducible repeat (first | refine blk_drewN ?_ _ | refine blk_drew ?_ | refine blk_alloc ?_ _)); exact BK196.out)) : gb197 ≠ gb196)); clear BK196; clear HB; have BK196 := n0_; have HB := n1_; have BK197 := n2_; have GW197 := n3_; have GE197 := n4_; have NB196_197 := n5_; have NB197_196 := n6_; clear n0_ n1_ n2_ n3_ n4_ n5_ n6_; clear hb hbox hg) | ((with_reducible refine gate_callee (f := 23) rfl ?_); refine goesL_ (some 10) rfl rfl Try.func23 (by kernel_rfl) rfl #[.string a0, .int .i64 0, .string (⟨#[82, 101, 99, 105, 112, 101, 40]⟩ : ByteArray)] rfl (by (try simp only [List.map_toArray, List.map_cons, List.map_nil]); first | done | rfl | (simp only [List.length_drop, List.length_take]; rfl)) ?_; (with_reducible refine (depotref21_word.calls k a0 0 (⟨#[82, 101, 99, 105, 112, 101, 40]⟩ : ByteArray) t198 true _ A2.out).mono ?_); rintro e w' ⟨rfl, ⟨nd, rfl⟩⟩; refine ⟨_, rfl, ?_⟩; (try (rw [drewN_self w42]; generalize hq_ : World.drewN w42 _ = w42; have n0_ : Aside0 (w42.heap[gb196]? = some (.cells #[.string (⟨#[]⟩ : ByteArray), .slice none 0 0, .slice none 0 0] 33 (0, 0))) := ⟨by rw [← hq_]; exact (by (with_reducible repeat (first | refine blk_drewN ?_ _ | refine blk_drew ?_ | refine blk_alloc ?_ _)); exact BK196.out)⟩; have n1_ : Aside0 (w42.heap[gb197]? = some (.cells #[.string (⟨#[]⟩ : ByteArray), .slice none 0 0, .slice none 0 0] 33 (0, 0))) := ⟨by rw [← hq_]; exact (by (with_reducible repeat (first | refine blk_drewN ?_ _ | refine blk_drew ?_ | refine blk_alloc ?_ _)); exact BK197.out)⟩; have n2_ : Aside0 (Below w.heap.size w w42) := ⟨by rw [← hq_]; exact (by repeat (first | (with_reducible first | exact HB.out | apply below_alloc | apply pw_below_drewN | apply below_drew1 | refine below_set ?_ GE196.out | refine below_set ?_ GE197.out) | exact HB.out))⟩; clear BK196 BK197 HB hq_; have BK196 := n0_; have BK197 := n1_; have HB := n2_; clear n0_ n1_ n2_))) | ((with_reducible refine gate_callee (f := 24) rfl ?_); refine goesL_ (some 20) rfl rfl Try.func24 (by kernel_rfl) rfl #[.string a0, .int .i64 t198] rfl (by (try simp only [List.map_toArray, List.map_cons, List.map_nil]); first | done | rfl | (simp only [List.length_drop, List.length_take]; rfl)) ?_; (with_reducible refine (depotref21_str.calls k a0 t198 t200 t201 true _ A4.out).mono ?_); rintro e w43 ⟨rfl, hb⟩; refine ⟨_, rfl, ?_⟩; have n0_ := Aside0.mk (blk_below (g := gb196) (o := .cells #[.string (⟨#[]⟩ : ByteArray), .slice none 0 0, .slice none 0 0] 33 (0, 0)) (by (with_reducible repeat (first | refine blk_drewN ?_ _ | refine blk_drew ?_ | refine blk_alloc ?_ _)); exact BK196.out) hb); have n1_ := Aside0.mk (blk_below (g := gb197) (o := .cells #[.string (⟨#[]⟩ : ByteArray), .slice none 0 0, .slice none 0 0] 33 (0, 0)) (by (with_reducible repeat (first | refine blk_drewN ?_ _ | refine blk_drew ?_ | refine blk_alloc ?_ _)); exact BK197.out) hb); have n2_ := Aside0.mk (below_step (by repeat (first | (with_reducible first | exact HB.out | apply below_alloc | apply pw_below_drewN | apply below_drew1 | refine below_set ?_ GE196.out | refine below_set ?_ GE197.out) | exact HB.out)) hb); clear BK196; clear BK197; clear HB; have BK196 := n0_; have BK197 := n1_; have HB := n2_; clear n0_ n1_ n2_; (try clear hb); (try clear hb2); (try clear hk); (try clear hi); have hnb44 := NB197_196.out; have hnc44 := NB196_197.out; have hcz45_0 : w43.cell? ⟨gb197, 0, none⟩ = some (.string (⟨#[]⟩ : ByteArray)) := (blk_cell BK197.out 0).trans rfl; have hcz45_1 : w43.cell? ⟨gb197, 1, none⟩ = some (.slice none 0 0) := (blk_cell BK197.out 1).trans rfl; have hcz45_2 : w43.cell? ⟨gb197, 2, none⟩ = some (.slice none 0 0) := (blk_cell BK197.out 2).trans rfl; have hfz45_0 := blk_frozen BK197.out 0; have hfz45_1 := blk_frozen BK197.out 1; have hfz45_2 := blk_frozen BK197.out 2) | ((with_reducible refine gate_callee (f := 23) rfl ?_); refine goesL_ (some 32) rfl rfl Try.func23 (by kernel_rfl) rfl #[.string a0, .int .i64 t201, .string (⟨#[44, 91]⟩ : ByteArray)] rfl (by (try simp only [List.map_toArray, List.map_cons, List.map_nil]); first | done | rfl | (simp only [List.length_drop, List.length_take]; rfl)) ?_; (with_reducible refine (depotref21_word.calls k a0 t201 (⟨#[44, 91]⟩ : ByteArray) t203 true _ A6.out).mono ?_); rintro e w' ⟨rfl, ⟨nd, rfl⟩⟩; refine ⟨_, rfl, ?_⟩) | ((with_reducible refine gate_callee (f := 25) rfl ?_); refine goesL_ (some 42) rfl rfl Try.func25 (by kernel_rfl) rfl #[.string a0, .int .i64 t203, .string (⟨#[93]⟩ : ByteArray), .bool true] rfl (by (try simp only [List.map_toArray, List.map_cons, List.map_nil]); first | done | rfl | (simp only [List.length_drop, List.length_take]; rfl)) ?_; (with_reducible refine (depotref21_strs.calls k a0 t203 (⟨#[93]⟩ : ByteArray) true t205 t206 true _ A8.out).mono ?_); rintro e w46 ⟨v208, rfl, ho0, hb⟩; refine ⟨_, rfl, ?_⟩; have n0_ := Aside0.mk (Kd.R_lower (Kd.R_newM (M := fun k_ => (w.heap.size ≤ k_)) ho0 (below_size (by repeat (first | (with_reducible first | exact HB.out | apply below_alloc | apply pw_below_drewN | apply below_drew1 | refine below_set ?_ GE196.out | refine below_set ?_ GE197.out) | exact HB.out))) (fun k_ h_ => h_)) (below_size (by repeat (first | (with_reducible first | exact HB.out | apply below_alloc | apply pw_below_drewN | apply below_drew1 | refine below_set ?_ GE196.out | refine below_set ?_ GE197.out) | exact HB.out)))); have n1_ := Aside0.mk (blk_below (g := gb196) (o := .cells #[.string (⟨#[]⟩ : ByteArray), .slice none 0 0, .slice none 0 0] 33 (0, 0)) (by (with_reducible repeat (first | refine blk_drewN ?_ _ | refine blk_drew ?_ | refine blk_alloc ?_ _)); refine blk_far ?_ NB196_197.out _; (with_reducible repeat (first | refine blk_drewN ?_ _ | refine blk_drew ?_ | refine blk_alloc ?_ _)); exact BK196.out) hb); have n2_ := Aside0.mk (blk_below (g := gb197) (o := .cells #[.string t200, .slice none 0 0, .slice none 0 0] 33 (0, 0)) (by (with_reducible repeat (first | refine blk_drewN ?_ _ | refine blk_drew ?_ | refine blk_alloc ?_ _)); refine blk_put (cs := #[.string (⟨#[]⟩ : ByteArray), .slice none 0 0, .slice none 0 0]) ?_ 0 _ rfl; (with_reducible repeat (first | refine blk_drewN ?_ _ | refine blk_drew ?_ | refine blk_alloc ?_ _)); exact BK197.out) hb); have n3_ := Aside0.mk (below_step (by repeat (first | (with_reducible first | exact HB.out | apply below_alloc | apply pw_below_drewN | apply below_drew1 | refine below_set ?_ GE196.out | refine below_set ?_ GE197.out) | exact HB.out)) hb); clear BK196; clear BK197; clear HB; have HO209 := n0_; have BK196 := n1_; have BK197 := n2_; have HB := n3_; clear n0_ n1_ n2_ n3_; (try clear hb); (try clear hb2); (try clear hk); (try clear hi); (try clear ho0); obtain ⟨Ao47, co47, eo47⟩ := Kd.R_slice HO209.out; subst eo47; have hcz48_0 : w46.cell? ⟨gb197, 0, none⟩ = some (.string t200) := (blk_cell BK197.out 0).trans rfl; have hcz48_1 : w46.cell? ⟨gb197, 1, none⟩ = some (.slice none 0 0) := (blk_cell BK197.out 1).trans rfl; have hcz48_2 : w46.cell? ⟨gb197, 2, none⟩ = some (.slice none 0 0) := (blk_cell BK197.out 2).trans rfl; have hfz48_0 := blk_frozen BK197.out 0; have hfz48_1 := blk_frozen BK197.out 1; have hfz48_2 := blk_frozen BK197.out 2) | ((with_reducible refine gate_callee (f := 23) rfl ?_); refine goesL_ (some 54) rfl rfl Try.func23 (by kernel_rfl) rfl #[.string a0, .int .i64 t206, .string (⟨#[44, 91]⟩ : ByteArray)] rfl (by (try simp only [List.map_toArray, List.map_cons, List.map_nil]); first | done | rfl | (simp only [List.length_drop, List.length_take]; rfl)) ?_; (with_reducible refine (depotref21_word.calls k a0 t206 (⟨#[44, 91]⟩ : ByteArray) t210 true _ A10.out).mono ?_); rintro e w' ⟨rfl, ⟨nd, rfl⟩⟩; refine ⟨_, rfl, ?_⟩) | ((with_reducible refine gate_callee (f := 26) rfl ?_); refine goesL_ (some 64) rfl rfl Try.func26 (by kernel_rfl) rfl #[.string a0, .int .i64 t210] rfl (by (try simp only [List.map_toArray, List.map_cons, List.map_nil]); first | done | rfl | (simp only [List.length_drop, List.length_take]; rfl)) ?_; (with_reducible refine (depotref21_steps.calls k a0 t210 t212 t215 true _ A12.out).mono ?_); rintro e w49 ⟨v213, rfl, ho0, hb⟩; refine ⟨_, rfl, ?_⟩; have n0_ := Aside0.mk (Kd.R_below (by (with_reducible repeat (first | apply Kd.R_alloc | apply Kd.R_drewN | apply Kd.R_drew)); exact (Kd.R_mono (Kd.R_far (p := ⟨gb197, 1, none⟩) (Kd.R_types HO209.out BK197.out (by decide)) (fun _ hk => hk.2) (.slice Ao47 t205.length co47)) (fun _ h_ => h_.1))) hb); have n1_ := Aside0.mk (Kd.N_lower (Kd.N_mono (ok' := fun k_ => (w.heap.size ≤ k_) ∧ some k_ ≠ (.slice Ao47 t205.length co47 : Value).ownBlock ∧ k_ ≠ gb196 ∧ k_ ≠ gb197) ho0 (fun k_ hk_ => ⟨(Nat.le_trans (below_size (by repeat (first | (with_reducible first | exact HB.out | apply below_alloc | apply pw_below_drewN | apply below_drew1 | refine below_set ?_ GE196.out | refine below_set ?_ GE197.out) | exact HB.out))) hk_), (Kd.fresh' (Kd.R_lt (by (with_reducible repeat (first | apply Kd.R_alloc | apply Kd.R_drewN | apply Kd.R_drew)); exact (Kd.R_mono (Kd.R_far (p := ⟨gb197, 1, none⟩) (Kd.R_types HO209.out BK197.out (by decide)) (fun _ hk => hk.2) (.slice Ao47 t205.length co47)) (fun _ h_ => h_.1)))) k_ hk_), (Kd.freshB (g := gb196) (o := .cells #[.string (⟨#[]⟩ : ByteArray), .slice none 0 0, .slice none 0 0] 33 (0, 0)) (by (with_reducible repeat (first | refine blk_drewN ?_ _ | refine blk_drew ?_ | refine blk_alloc ?_ _)); refine blk_far ?_ NB196_197.out _; (with_reducible repeat (first | refine blk_drewN ?_ _ | refine blk_drew ?_ | refine blk_alloc ?_ _)); exact BK196.out) k_ hk_), (Kd.freshB (g := gb197) (o := .cells #[.string t200, .slice Ao47 t205.length co47, .slice none 0 0] 33 (0, 0)) (by (with_reducible repeat (first | refine blk_drewN ?_ _ | refine blk_drew ?_ | refine blk_alloc ?_ _)); refine blk_put (cs := #[.string t200, .slice none 0 0, .slice none 0 0]) ?_ 1 _ rfl; (with_reducible repeat (first | refine blk_drewN ?_ _ | refine blk_drew ?_ | refine blk_alloc ?_ _)); exact BK197.out) k_ hk_)⟩)) (below_size (by repeat (first | (with_reducible first | exact HB.out | apply below_alloc | apply pw_below_drewN | apply below_drew1 | refine below_set ?_ GE196.out | refine below_set ?_ GE197.out) | exact HB.out)))); have n2_ := Aside0.mk (blk_below (g := gb196) (o := .cells #[.string (⟨#[]⟩ : ByteArray), .slice none 0 0, .slice none 0 0] 33 (0, 0)) (by (with_reducible repeat (first | refine blk_drewN ?_ _ | refine blk_drew ?_ | refine blk_alloc ?_ _)); refine blk_far ?_ NB196_197.out _; (with_reducible repeat (first | refine blk_drewN ?_ _ | refine blk_drew ?_ | refine blk_alloc ?_ _)); exact BK196.out) hb); have n3_ := Aside0.mk (blk_below (g := gb197) (o := .cells #[.string t200, .slice Ao47 t205.length co47, .slice none 0 0] 33 (0, 0)) (by (with_reducible repeat (first | refine blk_drewN ?_ _ | refine blk_drew ?_ | refine blk_alloc ?_ _)); refine blk_put (cs := #[.string t200, .slice none 0 0, .slice none 0 0]) ?_ 1 _ rfl; (with_reducible repeat (first | refine blk_drewN ?_ _ | refine blk_drew ?_ | refine blk_alloc ?_ _)); exact BK197.out) hb); have n4_ := Aside0.mk (below_step (by repeat (first | (with_reducible first | exact HB.out | apply below_alloc | apply pw_below_drewN | apply below_drew1 | refine below_set ?_ GE196.out | refine below_set ?_ GE197.out) | exact HB.out)) hb); clear HO209; clear BK196; clear BK197; clear HB; have HO209 := n0_; have HO214 := n1_; have BK196 := n2_; have BK197 := n3_; have HB := n4_; clear n0_ n1_ n2_ n3_ n4_; (try clear hb); (try clear hb2); (try clear hk); (try clear hi); (try clear ho0); obtain ⟨Ao50, co50, eo50⟩ := Kd.N_slice HO214.out; subst eo50; have hcz51_0 : w49.cell? ⟨gb197, 0, none⟩ = some (.string t200) := (blk_cell BK197.out 0).trans rfl; have hcz51_1 : w49.cell? ⟨gb197, 1, none⟩ = some (.slice Ao47 t205.length co47) := (blk_cell BK197.out 1).trans rfl; have hcz51_2 : w49.cell? ⟨gb197, 2, none⟩ = some (.slice none 0 0) := (blk_cell BK197.out 2).trans rfl; have hfz51_0 := blk_frozen BK197.out 0; have hfz51_1 := blk_frozen BK197.out 1; have hfz51_2 := blk_frozen BK197.out 2) | ((with_reducible refine gate_callee (f := 23) rfl ?_); refine goesL_ (some 76) rfl rfl Try.func23 (by kernel_rfl) rfl #[.string a0, .int .i64 t215, .string (⟨#[41]⟩ : ByteArray)] rfl (by (try simp only [List.map_toArray, List.map_cons, List.map_nil]); first | done | rfl | (simp only [List.length_drop, List.length_take]; rfl)) ?_; (with_reducible refine (depotref21_word.calls k a0 t215 (⟨#[41]⟩ : ByteArray) t217 false _ A14.out).mono ?_); rintro e w' ⟨rfl, ⟨nd, rfl⟩⟩; refine ⟨_, rfl, ?_⟩; have hcz52_0 : w49.cell? ⟨gb196, 0, none⟩ = some (.string (⟨#[]⟩ : ByteArray)) := (blk_cell BK196.out 0).trans rfl; have hcz52_1 : w49.cell? ⟨gb196, 1, none⟩ = some (.slice none 0 0) := (blk_cell BK196.out 1).trans rfl; have hcz52_2 : w49.cell? ⟨gb196, 2, none⟩ = some (.slice none 0 0) := (blk_cell BK196.out 2).trans rfl; have hfz52_0 := blk_frozen BK196.out 0; have hfz52_1 := blk_frozen BK196.out 1; have hfz52_2 := blk_frozen BK196.out 2))
                refine bodyPost_ret (results_ctt rfl _ _ gb196 33 #[.string (⟨#[]⟩ : ByteArray), .slice none 0 0, .slice none 0 0] (0, 0) _ rfl (by (with_reducible repeat (first | refine blk_drewN ?_ _ | refine blk_drew ?_ | refine blk_alloc ?_ _)); refine blk_put (cs := #[.string (⟨#[]⟩ : ByteArray), .slice none 0 0, .slice none 0 0]) ?_ 2 _ rfl; (with_reducible repeat (first | refine blk_drewN ?_ _ | refine blk_drew ?_ | refine blk_alloc ?_ _)); refine blk_put (cs := #[.string (⟨#[]⟩ : ByteArray), .slice none 0 0, .slice none 0 0]) ?_ 1 _ rfl; (with_reducible repeat (first | refine blk_drewN ?_ _ | refine blk_drew ?_ | refine blk_alloc ?_ _)); refine blk_put (cs := #[.string (⟨#[]⟩ : ByteArray), .slice none 0 0, .slice none 0 0]) ?_ 0 _ rfl; (with_reducible repeat (first | refine blk_drewN ?_ _ | refine blk_drew ?_ | refine blk_alloc ?_ _)); refine blk_far ?_ NB196_197.out _; (with_reducible repeat (first | refine blk_drewN ?_ _ | refine blk_drew ?_ | refine blk_alloc ?_ _)); exact BK196.out) Try.underlying33 rfl (by kernel_rfl)) rfl ?_
                exact ⟨_, _, by first | rfl | (simp [errW_none, errW_some] <;> rfl) | (simp [*, errW_none, errW_some] <;> rfl), by first | exact Kd.R_nil _ _ _ _ _ | exact Kd.N_nil _ _ _ _ _ | exact Kd.V_nil _ _ _ _ _ | exact Kd.Q_nil _ _ _ _ _ | exact Kd.S_nil _ _ _ _ _, by first | exact Kd.S_nil _ _ _ _ _ | exact Kd.N_nil _ _ _ _ _ | exact Kd.V_nil _ _ _ _ _ | exact Kd.Q_nil _ _ _ _ _ | exact Kd.R_nil _ _ _ _ _, by repeat (first | (with_reducible first | exact HB.out | apply below_alloc | apply pw_below_drewN | apply below_drew1 | refine below_set ?_ GE196.out | refine below_set ?_ GE197.out) | exact HB.out)⟩
            · replace c13 := Bool.eq_false_iff.mpr c13
              subst c13
              have H1 : (some ((⟨#[]⟩ : ByteArray), ([] : List ByteArray), ([] : List (S66)), t215, false)) = some (r1, r2, r3, r4, r5) := by rw [if_neg (show ¬ (false = true) by decide)] at H; exact H
              clear H
              have H := H1
              clear H1
              simp only [Option.some.injEq, Prod.mk.injEq] at H
              obtain ⟨rfl, rfl, rfl, rfl, rfl⟩ := H
              go_enter Try.func10, Try.ntmps10
              go_wp2_with (first | ((with_reducible refine gate_dst (N := 2) rfl ?_); (try (refine gate_guard (by rfl) ?_; dsimp only)); refine box_event ?hg (N := 2) ?hd (cs := #[.string (⟨#[]⟩ : ByteArray), .slice none 0 0, .slice none 0 0]) (t := 33) ?hr ?_; (case hd => rfl); (case hg => rfl); (case hr => first | (go_simp; done) | (go_simp; rfl)); intro gb196 hg w53 hbox hb; have n0_ := Aside0.mk (below_step (by repeat (first | (with_reducible first | exact HB.out | apply below_alloc | apply pw_below_drewN | apply below_drew1) | exact HB.out)) hb); have n1_ := Aside0.mk (hbox); have n2_ := Aside0.mk ((by rw [hg]; exact (below_size (by repeat (first | (with_reducible first | exact HB.out | apply below_alloc | apply pw_below_drewN | apply below_drew1) | exact HB.out))) : w.heap.size ≤ gb196)); have n3_ := Aside0.mk ((by rw [hg]; exact (below_size (by repeat (first | (with_reducible first | exact HB.out | apply below_alloc | apply pw_below_drewN | apply below_drew1) | exact HB.out))) : w.heap.size ≤ gb196)); clear HB; have HB := n0_; have BK196 := n1_; have GW196 := n2_; have GE196 := n3_; clear n0_ n1_ n2_ n3_; clear hb hbox hg) | ((with_reducible refine gate_dst (N := 5) rfl ?_); (try (refine gate_guard (by rfl) ?_; dsimp only)); refine box_event ?hg (N := 5) ?hd (cs := #[.string (⟨#[]⟩ : ByteArray), .slice none 0 0, .slice none 0 0]) (t := 33) ?hr ?_; (case hd => rfl); (case hg => rfl); (case hr => first | (go_simp; done) | (go_simp; rfl)); intro gb197 hg w54 hbox hb; have n0_ := Aside0.mk (blk_below (g := gb196) (o := .cells #[.string (⟨#[]⟩ : ByteArray), .slice none 0 0, .slice none 0 0] 33 (0, 0)) (by (with_reducible repeat (first | refine blk_drewN ?_ _ | refine blk_drew ?_ | refine blk_alloc ?_ _)); exact BK196.out) hb); have n1_ := Aside0.mk (below_step (by repeat (first | (with_reducible first | exact HB.out | apply below_alloc | apply pw_below_drewN | apply below_drew1 | refine below_set ?_ GE196.out) | exact HB.out)) hb); have n2_ := Aside0.mk (hbox); have n3_ := Aside0.mk ((by rw [hg]; exact (below_size (by repeat (first | (with_reducible first | exact HB.out | apply below_alloc | apply pw_below_drewN | apply below_drew1 | refine below_set ?_ GE196.out) | exact HB.out))) : w.heap.size ≤ gb197)); have n4_ := Aside0.mk ((by rw [hg]; exact (below_size (by repeat (first | (with_reducible first | exact HB.out | apply below_alloc | apply pw_below_drewN | apply below_drew1 | refine below_set ?_ GE196.out) | exact HB.out))) : w.heap.size ≤ gb197)); have n5_ := Aside0.mk ((by rw [hg]; exact Nat.ne_of_lt (blk_lt (g := gb196) (o := .cells #[.string (⟨#[]⟩ : ByteArray), .slice none 0 0, .slice none 0 0] 33 (0, 0)) (by (with_reducible repeat (first | refine blk_drewN ?_ _ | refine blk_drew ?_ | refine blk_alloc ?_ _)); exact BK196.out)) : gb196 ≠ gb197)); have n6_ := Aside0.mk ((by rw [hg]; exact Nat.ne_of_gt (blk_lt (g := gb196) (o := .cells #[.string (⟨#[]⟩ : ByteArray), .slice none 0 0, .slice none 0 0] 33 (0, 0)) (by (with_reducible repeat (first | refine blk_drewN ?_ _ | refine blk_drew ?_ | refine blk_alloc ?_ _)); exact BK196.out)) : gb197 ≠ gb196)); clear BK196; clear HB; have BK196 := n0_; have HB := n1_; have BK197 := n2_; have GW197 := n3_; have GE197 := n4_; have NB196_197 := n5_; have NB197_196 := n6_; clear n0_ n1_ n2_ n3_ n4_ n5_ n6_; clear hb hbox hg) | ((with_reducible refine gate_callee (f := 23) rfl ?_); refine goesL_ (some 10) rfl rfl Try.func23 (by kernel_rfl) rfl #[.string a0, .int .i64 0, .string (⟨#[82, 101, 99, 105, 112, 101, 40]⟩ : ByteArray)] rfl (by (try simp only [List.map_toArray, List.map_cons, List.map_nil]); first | done | rfl | (simp only [List.length_drop, List.length_take]; rfl)) ?_; (with_reducible refine (depotref21_word.calls k a0 0 (⟨#[82, 101, 99, 105, 112, 101, 40]⟩ : ByteArray) t198 true _ A2.out).mono ?_); rintro e w' ⟨rfl, ⟨nd, rfl⟩⟩; refine ⟨_, rfl, ?_⟩; (try (rw [drewN_self w54]; generalize hq_ : World.drewN w54 _ = w54; have n0_ : Aside0 (w54.heap[gb196]? = some (.cells #[.string (⟨#[]⟩ : ByteArray), .slice none 0 0, .slice none 0 0] 33 (0, 0))) := ⟨by rw [← hq_]; exact (by (with_reducible repeat (first | refine blk_drewN ?_ _ | refine blk_drew ?_ | refine blk_alloc ?_ _)); exact BK196.out)⟩; have n1_ : Aside0 (w54.heap[gb197]? = some (.cells #[.string (⟨#[]⟩ : ByteArray), .slice none 0 0, .slice none 0 0] 33 (0, 0))) := ⟨by rw [← hq_]; exact (by (with_reducible repeat (first | refine blk_drewN ?_ _ | refine blk_drew ?_ | refine blk_alloc ?_ _)); exact BK197.out)⟩; have n2_ : Aside0 (Below w.heap.size w w54) := ⟨by rw [← hq_]; exact (by repeat (first | (with_reducible first | exact HB.out | apply below_alloc | apply pw_below_drewN | apply below_drew1 | refine below_set ?_ GE196.out | refine below_set ?_ GE197.out) | exact HB.out))⟩; clear BK196 BK197 HB hq_; have BK196 := n0_; have BK197 := n1_; have HB := n2_; clear n0_ n1_ n2_))) | ((with_reducible refine gate_callee (f := 24) rfl ?_); refine goesL_ (some 20) rfl rfl Try.func24 (by kernel_rfl) rfl #[.string a0, .int .i64 t198] rfl (by (try simp only [List.map_toArray, List.map_cons, List.map_nil]); first | done | rfl | (simp only [List.length_drop, List.length_take]; rfl)) ?_; (with_reducible refine (depotref21_str.calls k a0 t198 t200 t201 true _ A4.out).mono ?_); rintro e w55 ⟨rfl, hb⟩; refine ⟨_, rfl, ?_⟩; have n0_ := Aside0.mk (blk_below (g := gb196) (o := .cells #[.string (⟨#[]⟩ : ByteArray), .slice none 0 0, .slice none 0 0] 33 (0, 0)) (by (with_reducible repeat (first | refine blk_drewN ?_ _ | refine blk_drew ?_ | refine blk_alloc ?_ _)); exact BK196.out) hb); have n1_ := Aside0.mk (blk_below (g := gb197) (o := .cells #[.string (⟨#[]⟩ : ByteArray), .slice none 0 0, .slice none 0 0] 33 (0, 0)) (by (with_reducible repeat (first | refine blk_drewN ?_ _ | refine blk_drew ?_ | refine blk_alloc ?_ _)); exact BK197.out) hb); have n2_ := Aside0.mk (below_step (by repeat (first | (with_reducible first | exact HB.out | apply below_alloc | apply pw_below_drewN | apply below_drew1 | refine below_set ?_ GE196.out | refine below_set ?_ GE197.out) | exact HB.out)) hb); clear BK196; clear BK197; clear HB; have BK196 := n0_; have BK197 := n1_; have HB := n2_; clear n0_ n1_ n2_; (try clear hb); (try clear hb2); (try clear hk); (try clear hi); have hnb56 := NB197_196.out; have hnc56 := NB196_197.out; have hcz57_0 : w55.cell? ⟨gb197, 0, none⟩ = some (.string (⟨#[]⟩ : ByteArray)) := (blk_cell BK197.out 0).trans rfl; have hcz57_1 : w55.cell? ⟨gb197, 1, none⟩ = some (.slice none 0 0) := (blk_cell BK197.out 1).trans rfl; have hcz57_2 : w55.cell? ⟨gb197, 2, none⟩ = some (.slice none 0 0) := (blk_cell BK197.out 2).trans rfl; have hfz57_0 := blk_frozen BK197.out 0; have hfz57_1 := blk_frozen BK197.out 1; have hfz57_2 := blk_frozen BK197.out 2) | ((with_reducible refine gate_callee (f := 23) rfl ?_); refine goesL_ (some 32) rfl rfl Try.func23 (by kernel_rfl) rfl #[.string a0, .int .i64 t201, .string (⟨#[44, 91]⟩ : ByteArray)] rfl (by (try simp only [List.map_toArray, List.map_cons, List.map_nil]); first | done | rfl | (simp only [List.length_drop, List.length_take]; rfl)) ?_; (with_reducible refine (depotref21_word.calls k a0 t201 (⟨#[44, 91]⟩ : ByteArray) t203 true _ A6.out).mono ?_); rintro e w' ⟨rfl, ⟨nd, rfl⟩⟩; refine ⟨_, rfl, ?_⟩) | ((with_reducible refine gate_callee (f := 25) rfl ?_); refine goesL_ (some 42) rfl rfl Try.func25 (by kernel_rfl) rfl #[.string a0, .int .i64 t203, .string (⟨#[93]⟩ : ByteArray), .bool true] rfl (by (try simp only [List.map_toArray, List.map_cons, List.map_nil]); first | done | rfl | (simp only [List.length_drop, List.length_take]; rfl)) ?_; (with_reducible refine (depotref21_strs.calls k a0 t203 (⟨#[93]⟩ : ByteArray) true t205 t206 true _ A8.out).mono ?_); rintro e w58 ⟨v208, rfl, ho0, hb⟩; refine ⟨_, rfl, ?_⟩; have n0_ := Aside0.mk (Kd.R_lower (Kd.R_newM (M := fun k_ => (w.heap.size ≤ k_)) ho0 (below_size (by repeat (first | (with_reducible first | exact HB.out | apply below_alloc | apply pw_below_drewN | apply below_drew1 | refine below_set ?_ GE196.out | refine below_set ?_ GE197.out) | exact HB.out))) (fun k_ h_ => h_)) (below_size (by repeat (first | (with_reducible first | exact HB.out | apply below_alloc | apply pw_below_drewN | apply below_drew1 | refine below_set ?_ GE196.out | refine below_set ?_ GE197.out) | exact HB.out)))); have n1_ := Aside0.mk (blk_below (g := gb196) (o := .cells #[.string (⟨#[]⟩ : ByteArray), .slice none 0 0, .slice none 0 0] 33 (0, 0)) (by (with_reducible repeat (first | refine blk_drewN ?_ _ | refine blk_drew ?_ | refine blk_alloc ?_ _)); refine blk_far ?_ NB196_197.out _; (with_reducible repeat (first | refine blk_drewN ?_ _ | refine blk_drew ?_ | refine blk_alloc ?_ _)); exact BK196.out) hb); have n2_ := Aside0.mk (blk_below (g := gb197) (o := .cells #[.string t200, .slice none 0 0, .slice none 0 0] 33 (0, 0)) (by (with_reducible repeat (first | refine blk_drewN ?_ _ | refine blk_drew ?_ | refine blk_alloc ?_ _)); refine blk_put (cs := #[.string (⟨#[]⟩ : ByteArray), .slice none 0 0, .slice none 0 0]) ?_ 0 _ rfl; (with_reducible repeat (first | refine blk_drewN ?_ _ | refine blk_drew ?_ | refine blk_alloc ?_ _)); exact BK197.out) hb); have n3_ := Aside0.mk (below_step (by repeat (first | (with_reducible first | exact HB.out | apply below_alloc | apply pw_below_drewN | apply below_drew1 | refine below_set ?_ GE196.out | refine below_set ?_ GE197.out) | exact HB.out)) hb); clear BK196; clear BK197; clear HB; have HO209 := n0_; have BK196 := n1_; have BK197 := n2_; have HB := n3_; clear n0_ n1_ n2_ n3_; (try clear hb); (try clear hb2); (try clear hk); (try clear hi); (try clear ho0); obtain ⟨Ao59, co59, eo59⟩ := Kd.R_slice HO209.out; subst eo59; have hcz60_0 : w58.cell? ⟨gb197, 0, none⟩ = some (.string t200) := (blk_cell BK197.out 0).trans rfl; have hcz60_1 : w58.cell? ⟨gb197, 1, none⟩ = some (.slice none 0 0) := (blk_cell BK197.out 1).trans rfl; have hcz60_2 : w58.cell? ⟨gb197, 2, none⟩ = some (.slice none 0 0) := (blk_cell BK197.out 2).trans rfl; have hfz60_0 := blk_frozen BK197.out 0; have hfz60_1 := blk_frozen BK197.out 1; have hfz60_2 := blk_frozen BK197.out 2) | ((with_reducible refine gate_callee (f := 23) rfl ?_); refine goesL_ (some 54) rfl rfl Try.func23 (by kernel_rfl) rfl #[.string a0, .int .i64 t206, .string (⟨#[44, 91]⟩ : ByteArray)] rfl (by (try simp only [List.map_toArray, List.map_cons, List.map_nil]); first | done | rfl | (simp only [List.length_drop, List.length_take]; rfl)) ?_; (with_reducible refine (depotref21_word.calls k a0 t206 (⟨#[44, 91]⟩ : ByteArray) t210 true _ A10.out).mono ?_); rintro e w' ⟨rfl, ⟨nd, rfl⟩⟩; refine ⟨_, rfl, ?_⟩) | ((with_reducible refine gate_callee (f := 26) rfl ?_); refine goesL_ (some 64) rfl rfl Try.func26 (by kernel_rfl) rfl #[.string a0, .int .i64 t210] rfl (by (try simp only [List.map_toArray, List.map_cons, List.map_nil]); first | done | rfl | (simp only [List.length_drop, List.length_take]; rfl)) ?_; (with_reducible refine (depotref21_steps.calls k a0 t210 t212 t215 false _ A12.out).mono ?_); rintro e w61 ⟨v213, rfl, ho0, hb⟩; refine ⟨_, rfl, ?_⟩; have n0_ := Aside0.mk (Kd.R_below (by (with_reducible repeat (first | apply Kd.R_alloc | apply Kd.R_drewN | apply Kd.R_drew)); exact (Kd.R_mono (Kd.R_far (p := ⟨gb197, 1, none⟩) (Kd.R_types HO209.out BK197.out (by decide)) (fun _ hk => hk.2) (.slice Ao59 t205.length co59)) (fun _ h_ => h_.1))) hb); have n1_ := Aside0.mk (Kd.N_lower (Kd.N_mono (ok' := fun k_ => (w.heap.size ≤ k_) ∧ some k_ ≠ (.slice Ao59 t205.length co59 : Value).ownBlock ∧ k_ ≠ gb196 ∧ k_ ≠ gb197) ho0 (fun k_ hk_ => ⟨(Nat.le_trans (below_size (by repeat (first | (with_reducible first | exact HB.out | apply below_alloc | apply pw_below_drewN | apply below_drew1 | refine below_set ?_ GE196.out | refine below_set ?_ GE197.out) | exact HB.out))) hk_), (Kd.fresh' (Kd.R_lt (by (with_reducible repeat (first | apply Kd.R_alloc | apply Kd.R_drewN | apply Kd.R_drew)); exact (Kd.R_mono (Kd.R_far (p := ⟨gb197, 1, none⟩) (Kd.R_types HO209.out BK197.out (by decide)) (fun _ hk => hk.2) (.slice Ao59 t205.length co59)) (fun _ h_ => h_.1)))) k_ hk_), (Kd.freshB (g := gb196) (o := .cells #[.string (⟨#[]⟩ : ByteArray), .slice none 0 0, .slice none 0 0] 33 (0, 0)) (by (with_reducible repeat (first | refine blk_drewN ?_ _ | refine blk_drew ?_ | refine blk_alloc ?_ _)); refine blk_far ?_ NB196_197.out _; (with_reducible repeat (first | refine blk_drewN ?_ _ | refine blk_drew ?_ | refine blk_alloc ?_ _)); exact BK196.out) k_ hk_), (Kd.freshB (g := gb197) (o := .cells #[.string t200, .slice Ao59 t205.length co59, .slice none 0 0] 33 (0, 0)) (by (with_reducible repeat (first | refine blk_drewN ?_ _ | refine blk_drew ?_ | refine blk_alloc ?_ _)); refine blk_put (cs := #[.string t200, .slice none 0 0, .slice none 0 0]) ?_ 1 _ rfl; (with_reducible repeat (first | refine blk_drewN ?_ _ | refine blk_drew ?_ | refine blk_alloc ?_ _)); exact BK197.out) k_ hk_)⟩)) (below_size (by repeat (first | (with_reducible first | exact HB.out | apply below_alloc | apply pw_below_drewN | apply below_drew1 | refine below_set ?_ GE196.out | refine below_set ?_ GE197.out) | exact HB.out)))); have n2_ := Aside0.mk (blk_below (g := gb196) (o := .cells #[.string (⟨#[]⟩ : ByteArray), .slice none 0 0, .slice none 0 0] 33 (0, 0)) (by (with_reducible repeat (first | refine blk_drewN ?_ _ | refine blk_drew ?_ | refine blk_alloc ?_ _)); refine blk_far ?_ NB196_197.out _; (with_reducible repeat (first | refine blk_drewN ?_ _ | refine blk_drew ?_ | refine blk_alloc ?_ _)); exact BK196.out) hb); have n3_ := Aside0.mk (blk_below (g := gb197) (o := .cells #[.string t200, .slice Ao59 t205.length co59, .slice none 0 0] 33 (0, 0)) (by (with_reducible repeat (first | refine blk_drewN ?_ _ | refine blk_drew ?_ | refine blk_alloc ?_ _)); refine blk_put (cs := #[.string t200, .slice none 0 0, .slice none 0 0]) ?_ 1 _ rfl; (with_reducible repeat (first | refine blk_drewN ?_ _ | refine blk_drew ?_ | refine blk_alloc ?_ _)); exact BK197.out) hb); have n4_ := Aside0.mk (below_step (by repeat (first | (with_reducible first | exact HB.out | apply below_alloc | apply pw_below_drewN | apply below_drew1 | refine below_set ?_ GE196.out | refine below_set ?_ GE197.out) | exact HB.out)) hb); clear HO209; clear BK196; clear BK197; clear HB; have HO209 := n0_; have HO214 := n1_; have BK196 := n2_; have BK197 := n3_; have HB := n4_; clear n0_ n1_ n2_ n3_ n4_; (try clear hb); (try clear hb2); (try clear hk); (try clear hi); (try clear ho0); obtain ⟨Ao62, co62, eo62⟩ := Kd.N_slice HO214.out; subst eo62; have hcz63_0 : w61.cell? ⟨gb197, 0, none⟩ = some (.string t200) := (blk_cell BK197.out 0).trans rfl; have hcz63_1 : w61.cell? ⟨gb197, 1, none⟩ = some (.slice Ao59 t205.length co59) := (blk_cell BK197.out 1).trans rfl; have hcz63_2 : w61.cell? ⟨gb197, 2, none⟩ = some (.slice none 0 0) := (blk_cell BK197.out 2).trans rfl; have hfz63_0 := blk_frozen BK197.out 0; have hfz63_1 := blk_frozen BK197.out 1; have hfz63_2 := blk_frozen BK197.out 2; have hcz64_0 : w61.cell? ⟨gb196, 0, none⟩ = some (.string (⟨#[]⟩ : ByteArray)) := (blk_cell BK196.out 0).trans rfl; have hcz64_1 : w61.cell? ⟨gb196, 1, none⟩ = some (.slice none 0 0) := (blk_cell BK196.out 1).trans rfl; have hcz64_2 : w61.cell? ⟨gb196, 2, none⟩ = some (.slice none 0 0) := (blk_cell BK196.out 2).trans rfl; have hfz64_0 := blk_frozen BK196.out 0; have hfz64_1 := blk_frozen BK196.out 1; have hfz64_2 := blk_frozen BK196.out 2))
              refine bodyPost_ret (results_ctt rfl _ _ gb196 33 #[.string (⟨#[]⟩ : ByteArray), .slice none 0 0, .slice none 0 0] (0, 0) _ rfl (by (with_reducible repeat (first | refine blk_drewN ?_ _ | refine blk_drew ?_ | refine blk_alloc ?_ _)); refine blk_put (cs := #[.string (⟨#[]⟩ : ByteArray), .slice none 0 0, .slice none 0 0]) ?_ 2 _ rfl; (with_reducible repeat (first | refine blk_drewN ?_ _ | refine blk_drew ?_ | refine blk_alloc ?_ _)); refine blk_put (cs := #[.string (⟨#[]⟩ : ByteArray), .slice none 0 0, .slice none 0 0]) ?_ 1 _ rfl; (with_reducible repeat (first | refine blk_drewN ?_ _ | refine blk_drew ?_ | refine blk_alloc ?_ _)); refine blk_put (cs := #[.string (⟨#[]⟩ : ByteArray), .slice none 0 0, .slice none 0 0]) ?_ 0 _ rfl; (with_reducible repeat (first | refine blk_drewN ?_ _ | refine blk_drew ?_ | refine blk_alloc ?_ _)); refine blk_far ?_ NB196_197.out _; (with_reducible repeat (first | refine blk_drewN ?_ _ | refine blk_drew ?_ | refine blk_alloc ?_ _)); exact BK196.out) Try.underlying33 rfl (by kernel_rfl)) rfl ?_
              exact ⟨_, _, by first | rfl | (simp [errW_none, errW_some] <;> rfl) | (simp [*, errW_none, errW_some] <;> rfl), by first | exact Kd.R_nil _ _ _ _ _ | exact Kd.N_nil _ _ _ _ _ | exact Kd.V_nil _ _ _ _ _ | exact Kd.Q_nil _ _ _ _ _ | exact Kd.S_nil _ _ _ _ _, by first | exact Kd.S_nil _ _ _ _ _ | exact Kd.N_nil _ _ _ _ _ | exact Kd.V_nil _ _ _ _ _ | exact Kd.Q_nil _ _ _ _ _ | exact Kd.R_nil _ _ _ _ _, by repeat (first | (with_reducible first | exact HB.out | apply below_alloc | apply pw_below_drewN | apply below_drew1 | refine below_set ?_ GE196.out | refine below_set ?_ GE197.out) | exact HB.out)⟩
          · replace c11 := Bool.eq_false_iff.mpr c11
            subst c11
            have H1 : (some ((⟨#[]⟩ : ByteArray), ([] : List ByteArray), ([] : List (S66)), t210, false)) = some (r1, r2, r3, r4, r5) := by rw [if_neg (show ¬ (false = true) by decide)] at H; exact H
            clear H
            have H := H1
            clear H1
            simp only [Option.some.injEq, Prod.mk.injEq] at H
            obtain ⟨rfl, rfl, rfl, rfl, rfl⟩ := H
            go_enter Try.func10, Try.ntmps10
            go_wp2_with (first | ((with_reducible refine gate_dst (N := 2) rfl ?_); (try (refine gate_guard (by rfl) ?_; dsimp only)); refine box_event ?hg (N := 2) ?hd (cs := #[.string (⟨#[]⟩ : ByteArray), .slice none 0 0, .slice none 0 0]) (t := 33) ?hr ?_; (case hd => rfl); (case hg => rfl); (case hr => first | (go_simp; done) | (go_simp; rfl)); intro gb196 hg w65 hbox hb; have n0_ := Aside0.mk (below_step (by repeat (first | (with_reducible first | exact HB.out | apply below_alloc | apply pw_below_drewN | apply below_drew1) | exact HB.out)) hb); have n1_ := Aside0.mk (hbox); have n2_ := Aside0.mk ((by rw [hg]; exact (below_size (by repeat (first | (with_reducible first | exact HB.out | apply below_alloc | apply pw_below_drewN | apply below_drew1) | exact HB.out))) : w.heap.size ≤ gb196)); have n3_ := Aside0.mk ((by rw [hg]; exact (below_size (by repeat (first | (with_reducible first | exact HB.out | apply below_alloc | apply pw_below_drewN | apply below_drew1) | exact HB.out))) : w.heap.size ≤ gb196)); clear HB; have HB := n0_; have BK196 := n1_; have GW196 := n2_; have GE196 := n3_; clear n0_ n1_ n2_ n3_; clear hb hbox hg) | ((with_reducible refine gate_dst (N := 5) rfl ?_); (try (refine gate_guard (by rfl) ?_; dsimp only)); refine box_event ?hg (N := 5) ?hd (cs := #[.string (⟨#[]⟩ : ByteArray), .slice none 0 0, .slice none 0 0]) (t := 33) ?hr ?_; (case hd => rfl); (case hg => rfl); (case hr => first | (go_simp; done) | (go_simp; rfl)); intro gb197 hg w66 hbox hb; have n0_ := Aside0.mk (blk_below (g := gb196) (o := .cells #[.string (⟨#[]⟩ : ByteArray), .slice none 0 0, .slice none 0 0] 33 (0, 0)) (by (with_reducible repeat (first | refine blk_drewN ?_ _ | refine blk_drew ?_ | refine blk_alloc ?_ _)); exact BK196.out) hb); have n1_ := Aside0.mk (below_step (by repeat (first | (with_reducible first | exact HB.out | apply below_alloc | apply pw_below_drewN | apply below_drew1 | refine below_set ?_ GE196.out) | exact HB.out)) hb); have n2_ := Aside0.mk (hbox); have n3_ := Aside0.mk ((by rw [hg]; exact (below_size (by repeat (first | (with_reducible first | exact HB.out | apply below_alloc | apply pw_below_drewN | apply below_drew1 | refine below_set ?_ GE196.out) | exact HB.out))) : w.heap.size ≤ gb197)); have n4_ := Aside0.mk ((by rw [hg]; exact (below_size (by repeat (first | (with_reducible first | exact HB.out | apply below_alloc | apply pw_below_drewN | apply below_drew1 | refine below_set ?_ GE196.out) | exact HB.out))) : w.heap.size ≤ gb197)); have n5_ := Aside0.mk ((by rw [hg]; exact Nat.ne_of_lt (blk_lt (g := gb196) (o := .cells #[.string (⟨#[]⟩ : ByteArray), .slice none 0 0, .slice none 0 0] 33 (0, 0)) (by (with_reducible repeat (first | refine blk_drewN ?_ _ | refine blk_drew ?_ | refine blk_alloc ?_ _)); exact BK196.out)) : gb196 ≠ gb197)); have n6_ := Aside0.mk ((by rw [hg]; exact Nat.ne_of_gt (blk_lt (g := gb196) (o := .cells #[.string (⟨#[]⟩ : ByteArray), .slice none 0 0, .slice none 0 0] 33 (0, 0)) (by (with_reducible repeat (first | refine blk_drewN ?_ _ | refine blk_drew ?_ | refine blk_alloc ?_ _)); exact BK196.out)) : gb197 ≠ gb196)); clear BK196; clear HB; have BK196 := n0_; have HB := n1_; have BK197 := n2_; have GW197 := n3_; have GE197 := n4_; have NB196_197 := n5_; have NB197_196 := n6_; clear n0_ n1_ n2_ n3_ n4_ n5_ n6_; clear hb hbox hg) | ((with_reducible refine gate_callee (f := 23) rfl ?_); refine goesL_ (some 10) rfl rfl Try.func23 (by kernel_rfl) rfl #[.string a0, .int .i64 0, .string (⟨#[82, 101, 99, 105, 112, 101, 40]⟩ : ByteArray)] rfl (by (try simp only [List.map_toArray, List.map_cons, List.map_nil]); first | done | rfl | (simp only [List.length_drop, List.length_take]; rfl)) ?_; (with_reducible refine (depotref21_word.calls k a0 0 (⟨#[82, 101, 99, 105, 112, 101, 40]⟩ : ByteArray) t198 true _ A2.out).mono ?_); rintro e w' ⟨rfl, ⟨nd, rfl⟩⟩; refine ⟨_, rfl, ?_⟩; (try (rw [drewN_self w66]; generalize hq_ : World.drewN w66 _ = w66; have n0_ : Aside0 (w66.heap[gb196]? = some (.cells #[.string (⟨#[]⟩ : ByteArray), .slice none 0 0, .slice none 0 0] 33 (0, 0))) := ⟨by rw [← hq_]; exact (by (with_reducible repeat (first | refine blk_drewN ?_ _ | refine blk_drew ?_ | refine blk_alloc ?_ _)); exact BK196.out)⟩; have n1_ : Aside0 (w66.heap[gb197]? = some (.cells #[.string (⟨#[]⟩ : ByteArray), .slice none 0 0, .slice none 0 0] 33 (0, 0))) := ⟨by rw [← hq_]; exact (by (with_reducible repeat (first | refine blk_drewN ?_ _ | refine blk_drew ?_ | refine blk_alloc ?_ _)); exact BK197.out)⟩; have n2_ : Aside0 (Below w.heap.size w w66) := ⟨by rw [← hq_]; exact (by repeat (first | (with_reducible first | exact HB.out | apply below_alloc | apply pw_below_drewN | apply below_drew1 | refine below_set ?_ GE196.out | refine below_set ?_ GE197.out) | exact HB.out))⟩; clear BK196 BK197 HB hq_; have BK196 := n0_; have BK197 := n1_; have HB := n2_; clear n0_ n1_ n2_))) | ((with_reducible refine gate_callee (f := 24) rfl ?_); refine goesL_ (some 20) rfl rfl Try.func24 (by kernel_rfl) rfl #[.string a0, .int .i64 t198] rfl (by (try simp only [List.map_toArray, List.map_cons, List.map_nil]); first | done | rfl | (simp only [List.length_drop, List.length_take]; rfl)) ?_; (with_reducible refine (depotref21_str.calls k a0 t198 t200 t201 true _ A4.out).mono ?_); rintro e w67 ⟨rfl, hb⟩; refine ⟨_, rfl, ?_⟩; have n0_ := Aside0.mk (blk_below (g := gb196) (o := .cells #[.string (⟨#[]⟩ : ByteArray), .slice none 0 0, .slice none 0 0] 33 (0, 0)) (by (with_reducible repeat (first | refine blk_drewN ?_ _ | refine blk_drew ?_ | refine blk_alloc ?_ _)); exact BK196.out) hb); have n1_ := Aside0.mk (blk_below (g := gb197) (o := .cells #[.string (⟨#[]⟩ : ByteArray), .slice none 0 0, .slice none 0 0] 33 (0, 0)) (by (with_reducible repeat (first | refine blk_drewN ?_ _ | refine blk_drew ?_ | refine blk_alloc ?_ _)); exact BK197.out) hb); have n2_ := Aside0.mk (below_step (by repeat (first | (with_reducible first | exact HB.out | apply below_alloc | apply pw_below_drewN | apply below_drew1 | refine below_set ?_ GE196.out | refine below_set ?_ GE197.out) | exact HB.out)) hb); clear BK196; clear BK197; clear HB; have BK196 := n0_; have BK197 := n1_; have HB := n2_; clear n0_ n1_ n2_; (try clear hb); (try clear hb2); (try clear hk); (try clear hi); have hnb68 := NB197_196.out; have hnc68 := NB196_197.out; have hcz69_0 : w67.cell? ⟨gb197, 0, none⟩ = some (.string (⟨#[]⟩ : ByteArray)) := (blk_cell BK197.out 0).trans rfl; have hcz69_1 : w67.cell? ⟨gb197, 1, none⟩ = some (.slice none 0 0) := (blk_cell BK197.out 1).trans rfl; have hcz69_2 : w67.cell? ⟨gb197, 2, none⟩ = some (.slice none 0 0) := (blk_cell BK197.out 2).trans rfl; have hfz69_0 := blk_frozen BK197.out 0; have hfz69_1 := blk_frozen BK197.out 1; have hfz69_2 := blk_frozen BK197.out 2) | ((with_reducible refine gate_callee (f := 23) rfl ?_); refine goesL_ (some 32) rfl rfl Try.func23 (by kernel_rfl) rfl #[.string a0, .int .i64 t201, .string (⟨#[44, 91]⟩ : ByteArray)] rfl (by (try simp only [List.map_toArray, List.map_cons, List.map_nil]); first | done | rfl | (simp only [List.length_drop, List.length_take]; rfl)) ?_; (with_reducible refine (depotref21_word.calls k a0 t201 (⟨#[44, 91]⟩ : ByteArray) t203 true _ A6.out).mono ?_); rintro e w' ⟨rfl, ⟨nd, rfl⟩⟩; refine ⟨_, rfl, ?_⟩) | ((with_reducible refine gate_callee (f := 25) rfl ?_); refine goesL_ (some 42) rfl rfl Try.func25 (by kernel_rfl) rfl #[.string a0, .int .i64 t203, .string (⟨#[93]⟩ : ByteArray), .bool true] rfl (by (try simp only [List.map_toArray, List.map_cons, List.map_nil]); first | done | rfl | (simp only [List.length_drop, List.length_take]; rfl)) ?_; (with_reducible refine (depotref21_strs.calls k a0 t203 (⟨#[93]⟩ : ByteArray) true t205 t206 true _ A8.out).mono ?_); rintro e w70 ⟨v208, rfl, ho0, hb⟩; refine ⟨_, rfl, ?_⟩; have n0_ := Aside0.mk (Kd.R_lower (Kd.R_newM (M := fun k_ => (w.heap.size ≤ k_)) ho0 (below_size (by repeat (first | (with_reducible first | exact HB.out | apply below_alloc | apply pw_below_drewN | apply below_drew1 | refine below_set ?_ GE196.out | refine below_set ?_ GE197.out) | exact HB.out))) (fun k_ h_ => h_)) (below_size (by repeat (first | (with_reducible first | exact HB.out | apply below_alloc | apply pw_below_drewN | apply below_drew1 | refine below_set ?_ GE196.out | refine below_set ?_ GE197.out) | exact HB.out)))); have n1_ := Aside0.mk (blk_below (g := gb196) (o := .cells #[.string (⟨#[]⟩ : ByteArray), .slice none 0 0, .slice none 0 0] 33 (0, 0)) (by (with_reducible repeat (first | refine blk_drewN ?_ _ | refine blk_drew ?_ | refine blk_alloc ?_ _)); refine blk_far ?_ NB196_197.out _; (with_reducible repeat (first | refine blk_drewN ?_ _ | refine blk_drew ?_ | refine blk_alloc ?_ _)); exact BK196.out) hb); have n2_ := Aside0.mk (blk_below (g := gb197) (o := .cells #[.string t200, .slice none 0 0, .slice none 0 0] 33 (0, 0)) (by (with_reducible repeat (first | refine blk_drewN ?_ _ | refine blk_drew ?_ | refine blk_alloc ?_ _)); refine blk_put (cs := #[.string (⟨#[]⟩ : ByteArray), .slice none 0 0, .slice none 0 0]) ?_ 0 _ rfl; (with_reducible repeat (first | refine blk_drewN ?_ _ | refine blk_drew ?_ | refine blk_alloc ?_ _)); exact BK197.out) hb); have n3_ := Aside0.mk (below_step (by repeat (first | (with_reducible first | exact HB.out | apply below_alloc | apply pw_below_drewN | apply below_drew1 | refine below_set ?_ GE196.out | refine below_set ?_ GE197.out) | exact HB.out)) hb); clear BK196; clear BK197; clear HB; have HO209 := n0_; have BK196 := n1_; have BK197 := n2_; have HB := n3_; clear n0_ n1_ n2_ n3_; (try clear hb); (try clear hb2); (try clear hk); (try clear hi); (try clear ho0); obtain ⟨Ao71, co71, eo71⟩ := Kd.R_slice HO209.out; subst eo71; have hcz72_0 : w70.cell? ⟨gb197, 0, none⟩ = some (.string t200) := (blk_cell BK197.out 0).trans rfl; have hcz72_1 : w70.cell? ⟨gb197, 1, none⟩ = some (.slice none 0 0) := (blk_cell BK197.out 1).trans rfl; have hcz72_2 : w70.cell? ⟨gb197, 2, none⟩ = some (.slice none 0 0) := (blk_cell BK197.out 2).trans rfl; have hfz72_0 := blk_frozen BK197.out 0; have hfz72_1 := blk_frozen BK197.out 1; have hfz72_2 := blk_frozen BK197.out 2) | ((with_reducible refine gate_callee (f := 23) rfl ?_); refine goesL_ (some 54) rfl rfl Try.func23 (by kernel_rfl) rfl #[.string a0, .int .i64 t206, .string (⟨#[44, 91]⟩ : ByteArray)] rfl (by (try simp only [List.map_toArray, List.map_cons, List.map_nil]); first | done | rfl | (simp only [List.length_drop, List.length_take]; rfl)) ?_; (with_reducible refine (depotref21_word.calls k a0 t206 (⟨#[44, 91]⟩ : ByteArray) t210 false _ A10.out).mono ?_); rintro e w' ⟨rfl, ⟨nd, rfl⟩⟩; refine ⟨_, rfl, ?_⟩; have hcz73_0 : w70.cell? ⟨gb196, 0, none⟩ = some (.string (⟨#[]⟩ : ByteArray)) := (blk_cell BK196.out 0).trans rfl; have hcz73_1 : w70.cell? ⟨gb196, 1, none⟩ = some (.slice none 0 0) := (blk_cell BK196.out 1).trans rfl; have hcz73_2 : w70.cell? ⟨gb196, 2, none⟩ = some (.slice none 0 0) := (blk_cell BK196.out 2).trans rfl; have hfz73_0 := blk_frozen BK196.out 0; have hfz73_1 := blk_frozen BK196.out 1; have hfz73_2 := blk_frozen BK196.out 2))
            refine bodyPost_ret (results_ctt rfl _ _ gb196 33 #[.string (⟨#[]⟩ : ByteArray), .slice none 0 0, .slice none 0 0] (0, 0) _ rfl (by (with_reducible repeat (first | refine blk_drewN ?_ _ | refine blk_drew ?_ | refine blk_alloc ?_ _)); refine blk_put (cs := #[.string (⟨#[]⟩ : ByteArray), .slice none 0 0, .slice none 0 0]) ?_ 2 _ rfl; (with_reducible repeat (first | refine blk_drewN ?_ _ | refine blk_drew ?_ | refine blk_alloc ?_ _)); refine blk_put (cs := #[.string (⟨#[]⟩ : ByteArray), .slice none 0 0, .slice none 0 0]) ?_ 1 _ rfl; (with_reducible repeat (first | refine blk_drewN ?_ _ | refine blk_drew ?_ | refine blk_alloc ?_ _)); refine blk_put (cs := #[.string (⟨#[]⟩ : ByteArray), .slice none 0 0, .slice none 0 0]) ?_ 0 _ rfl; (with_reducible repeat (first | refine blk_drewN ?_ _ | refine blk_drew ?_ | refine blk_alloc ?_ _)); refine blk_far ?_ NB196_197.out _; (with_reducible repeat (first | refine blk_drewN ?_ _ | refine blk_drew ?_ | refine blk_alloc ?_ _)); exact BK196.out) Try.underlying33 rfl (by kernel_rfl)) rfl ?_
            exact ⟨_, _, by first | rfl | (simp [errW_none, errW_some] <;> rfl) | (simp [*, errW_none, errW_some] <;> rfl), by first | exact Kd.R_nil _ _ _ _ _ | exact Kd.N_nil _ _ _ _ _ | exact Kd.V_nil _ _ _ _ _ | exact Kd.Q_nil _ _ _ _ _ | exact Kd.S_nil _ _ _ _ _, by first | exact Kd.S_nil _ _ _ _ _ | exact Kd.N_nil _ _ _ _ _ | exact Kd.V_nil _ _ _ _ _ | exact Kd.Q_nil _ _ _ _ _ | exact Kd.R_nil _ _ _ _ _, by repeat (first | (with_reducible first | exact HB.out | apply below_alloc | apply pw_below_drewN | apply below_drew1 | refine below_set ?_ GE196.out | refine below_set ?_ GE197.out) | exact HB.out)⟩
        · replace c9 := Bool.eq_false_iff.mpr c9
          subst c9
          have H1 : (some ((⟨#[]⟩ : ByteArray), ([] : List ByteArray), ([] : List (S66)), t206, false)) = some (r1, r2, r3, r4, r5) := by rw [if_neg (show ¬ (false = true) by decide)] at H; exact H
          clear H
          have H := H1
          clear H1
          simp only [Option.some.injEq, Prod.mk.injEq] at H
          obtain ⟨rfl, rfl, rfl, rfl, rfl⟩ := H
          go_enter Try.func10, Try.ntmps10
          go_wp2_with (first | ((with_reducible refine gate_dst (N := 2) rfl ?_); (try (refine gate_guard (by rfl) ?_; dsimp only)); refine box_event ?hg (N := 2) ?hd (cs := #[.string (⟨#[]⟩ : ByteArray), .slice none 0 0, .slice none 0 0]) (t := 33) ?hr ?_; (case hd => rfl); (case hg => rfl); (case hr => first | (go_simp; done) | (go_simp; rfl)); intro gb196 hg w74 hbox hb; have n0_ := Aside0.mk (below_step (by repeat (first | (with_reducible first | exact HB.out | apply below_alloc | apply pw_below_drewN | apply below_drew1) | exact HB.out)) hb); have n1_ := Aside0.mk (hbox); have n2_ := Aside0.mk ((by rw [hg]; exact (below_size (by repeat (first | (with_reducible first | exact HB.out | apply below_alloc | apply pw_below_drewN | apply below_drew1) | exact HB.out))) : w.heap.size ≤ gb196)); have n3_ := Aside0.mk ((by rw [hg]; exact (below_size (by repeat (first | (with_reducible first | exact HB.out | apply below_alloc | apply pw_below_drewN | apply below_drew1) | exact HB.out))) : w.heap.size ≤ gb196)); clear HB; have HB := n0_; have BK196 := n1_; have GW196 := n2_; have GE196 := n3_; clear n0_ n1_ n2_ n3_; clear hb hbox hg) | ((with_reducible refine gate_dst (N := 5) rfl ?_); (try (refine gate_guard (by rfl) ?_; dsimp only)); refine box_event ?hg (N := 5) ?hd (cs := #[.string (⟨#[]⟩ : ByteArray), .slice none 0 0, .slice none 0 0]) (t := 33) ?hr ?_; (case hd => rfl); (case hg => rfl); (case hr => first | (go_simp; done) | (go_simp; rfl)); intro gb197 hg w75 hbox hb; have n0_ := Aside0.mk (blk_below (g := gb196) (o := .cells #[.string (⟨#[]⟩ : ByteArray), .slice none 0 0, .slice none 0 0] 33 (0, 0)) (by (with_reducible repeat (first | refine blk_drewN ?_ _ | refine blk_drew ?_ | refine blk_alloc ?_ _)); exact BK196.out) hb); have n1_ := Aside0.mk (below_step (by repeat (first | (with_reducible first | exact HB.out | apply below_alloc | apply pw_below_drewN | apply below_drew1 | refine below_set ?_ GE196.out) | exact HB.out)) hb); have n2_ := Aside0.mk (hbox); have n3_ := Aside0.mk ((by rw [hg]; exact (below_size (by repeat (first | (with_reducible first | exact HB.out | apply below_alloc | apply pw_below_drewN | apply below_drew1 | refine below_set ?_ GE196.out) | exact HB.out))) : w.heap.size ≤ gb197)); have n4_ := Aside0.mk ((by rw [hg]; exact (below_size (by repeat (first | (with_reducible first | exact HB.out | apply below_alloc | apply pw_below_drewN | apply below_drew1 | refine below_set ?_ GE196.out) | exact HB.out))) : w.heap.size ≤ gb197)); have n5_ := Aside0.mk ((by rw [hg]; exact Nat.ne_of_lt (blk_lt (g := gb196) (o := .cells #[.string (⟨#[]⟩ : ByteArray), .slice none 0 0, .slice none 0 0] 33 (0, 0)) (by (with_reducible repeat (first | refine blk_drewN ?_ _ | refine blk_drew ?_ | refine blk_alloc ?_ _)); exact BK196.out)) : gb196 ≠ gb197)); have n6_ := Aside0.mk ((by rw [hg]; exact Nat.ne_of_gt (blk_lt (g := gb196) (o := .cells #[.string (⟨#[]⟩ : ByteArray), .slice none 0 0, .slice none 0 0] 33 (0, 0)) (by (with_reducible repeat (first | refine blk_drewN ?_ _ | refine blk_drew ?_ | refine blk_alloc ?_ _)); exact BK196.out)) : gb197 ≠ gb196)); clear BK196; clear HB; have BK196 := n0_; have HB := n1_; have BK197 := n2_; have GW197 := n3_; have GE197 := n4_; have NB196_197 := n5_; have NB197_196 := n6_; clear n0_ n1_ n2_ n3_ n4_ n5_ n6_; clear hb hbox hg) | ((with_reducible refine gate_callee (f := 23) rfl ?_); refine goesL_ (some 10) rfl rfl Try.func23 (by kernel_rfl) rfl #[.string a0, .int .i64 0, .string (⟨#[82, 101, 99, 105, 112, 101, 40]⟩ : ByteArray)] rfl (by (try simp only [List.map_toArray, List.map_cons, List.map_nil]); first | done | rfl | (simp only [List.length_drop, List.length_take]; rfl)) ?_; (with_reducible refine (depotref21_word.calls k a0 0 (⟨#[82, 101, 99, 105, 112, 101, 40]⟩ : ByteArray) t198 true _ A2.out).mono ?_); rintro e w' ⟨rfl, ⟨nd, rfl⟩⟩; refine ⟨_, rfl, ?_⟩; (try (rw [drewN_self w75]; generalize hq_ : World.drewN w75 _ = w75; have n0_ : Aside0 (w75.heap[gb196]? = some (.cells #[.string (⟨#[]⟩ : ByteArray), .slice none 0 0, .slice none 0 0] 33 (0, 0))) := ⟨by rw [← hq_]; exact (by (with_reducible repeat (first | refine blk_drewN ?_ _ | refine blk_drew ?_ | refine blk_alloc ?_ _)); exact BK196.out)⟩; have n1_ : Aside0 (w75.heap[gb197]? = some (.cells #[.string (⟨#[]⟩ : ByteArray), .slice none 0 0, .slice none 0 0] 33 (0, 0))) := ⟨by rw [← hq_]; exact (by (with_reducible repeat (first | refine blk_drewN ?_ _ | refine blk_drew ?_ | refine blk_alloc ?_ _)); exact BK197.out)⟩; have n2_ : Aside0 (Below w.heap.size w w75) := ⟨by rw [← hq_]; exact (by repeat (first | (with_reducible first | exact HB.out | apply below_alloc | apply pw_below_drewN | apply below_drew1 | refine below_set ?_ GE196.out | refine below_set ?_ GE197.out) | exact HB.out))⟩; clear BK196 BK197 HB hq_; have BK196 := n0_; have BK197 := n1_; have HB := n2_; clear n0_ n1_ n2_))) | ((with_reducible refine gate_callee (f := 24) rfl ?_); refine goesL_ (some 20) rfl rfl Try.func24 (by kernel_rfl) rfl #[.string a0, .int .i64 t198] rfl (by (try simp only [List.map_toArray, List.map_cons, List.map_nil]); first | done | rfl | (simp only [List.length_drop, List.length_take]; rfl)) ?_; (with_reducible refine (depotref21_str.calls k a0 t198 t200 t201 true _ A4.out).mono ?_); rintro e w76 ⟨rfl, hb⟩; refine ⟨_, rfl, ?_⟩; have n0_ := Aside0.mk (blk_below (g := gb196) (o := .cells #[.string (⟨#[]⟩ : ByteArray), .slice none 0 0, .slice none 0 0] 33 (0, 0)) (by (with_reducible repeat (first | refine blk_drewN ?_ _ | refine blk_drew ?_ | refine blk_alloc ?_ _)); exact BK196.out) hb); have n1_ := Aside0.mk (blk_below (g := gb197) (o := .cells #[.string (⟨#[]⟩ : ByteArray), .slice none 0 0, .slice none 0 0] 33 (0, 0)) (by (with_reducible repeat (first | refine blk_drewN ?_ _ | refine blk_drew ?_ | refine blk_alloc ?_ _)); exact BK197.out) hb); have n2_ := Aside0.mk (below_step (by repeat (first | (with_reducible first | exact HB.out | apply below_alloc | apply pw_below_drewN | apply below_drew1 | refine below_set ?_ GE196.out | refine below_set ?_ GE197.out) | exact HB.out)) hb); clear BK196; clear BK197; clear HB; have BK196 := n0_; have BK197 := n1_; have HB := n2_; clear n0_ n1_ n2_; (try clear hb); (try clear hb2); (try clear hk); (try clear hi); have hnb77 := NB197_196.out; have hnc77 := NB196_197.out; have hcz78_0 : w76.cell? ⟨gb197, 0, none⟩ = some (.string (⟨#[]⟩ : ByteArray)) := (blk_cell BK197.out 0).trans rfl; have hcz78_1 : w76.cell? ⟨gb197, 1, none⟩ = some (.slice none 0 0) := (blk_cell BK197.out 1).trans rfl; have hcz78_2 : w76.cell? ⟨gb197, 2, none⟩ = some (.slice none 0 0) := (blk_cell BK197.out 2).trans rfl; have hfz78_0 := blk_frozen BK197.out 0; have hfz78_1 := blk_frozen BK197.out 1; have hfz78_2 := blk_frozen BK197.out 2) | ((with_reducible refine gate_callee (f := 23) rfl ?_); refine goesL_ (some 32) rfl rfl Try.func23 (by kernel_rfl) rfl #[.string a0, .int .i64 t201, .string (⟨#[44, 91]⟩ : ByteArray)] rfl (by (try simp only [List.map_toArray, List.map_cons, List.map_nil]); first | done | rfl | (simp only [List.length_drop, List.length_take]; rfl)) ?_; (with_reducible refine (depotref21_word.calls k a0 t201 (⟨#[44, 91]⟩ : ByteArray) t203 true _ A6.out).mono ?_); rintro e w' ⟨rfl, ⟨nd, rfl⟩⟩; refine ⟨_, rfl, ?_⟩) | ((with_reducible refine gate_callee (f := 25) rfl ?_); refine goesL_ (some 42) rfl rfl Try.func25 (by kernel_rfl) rfl #[.string a0, .int .i64 t203, .string (⟨#[93]⟩ : ByteArray), .bool true] rfl (by (try simp only [List.map_toArray, List.map_cons, List.map_nil]); first | done | rfl | (simp only [List.length_drop, List.length_take]; rfl)) ?_; (with_reducible refine (depotref21_strs.calls k a0 t203 (⟨#[93]⟩ : ByteArray) true t205 t206 false _ A8.out).mono ?_); rintro e w79 ⟨v208, rfl, ho0, hb⟩; refine ⟨_, rfl, ?_⟩; have n0_ := Aside0.mk (Kd.R_lower (Kd.R_newM (M := fun k_ => (w.heap.size ≤ k_)) ho0 (below_size (by repeat (first | (with_reducible first | exact HB.out | apply below_alloc | apply pw_below_drewN | apply below_drew1 | refine below_set ?_ GE196.out | refine below_set ?_ GE197.out) | exact HB.out))) (fun k_ h_ => h_)) (below_size (by repeat (first | (with_reducible first | exact HB.out | apply below_alloc | apply pw_below_drewN | apply below_drew1 | refine below_set ?_ GE196.out | refine below_set ?_ GE197.out) | exact HB.out)))); have n1_ := Aside0.mk (blk_below (g := gb196) (o := .cells #[.string (⟨#[]⟩ : ByteArray), .slice none 0 0, .slice none 0 0] 33 (0, 0)) (by (with_reducible repeat (first | refine blk_drewN ?_ _ | refine blk_drew ?_ | refine blk_alloc ?_ _)); refine blk_far ?_ NB196_197.out _; (with_reducible repeat (first | refine blk_drewN ?_ _ | refine blk_drew ?_ | refine blk_alloc ?_ _)); exact BK196.out) hb); have n2_ := Aside0.mk (blk_below (g := gb197) (o := .cells #[.string t200, .slice none 0 0, .slice none 0 0] 33 (0, 0)) (by (with_reducible repeat (first | refine blk_drewN ?_ _ | refine blk_drew ?_ | refine blk_alloc ?_ _)); refine blk_put (cs := #[.string (⟨#[]⟩ : ByteArray), .slice none 0 0, .slice none 0 0]) ?_ 0 _ rfl; (with_reducible repeat (first | refine blk_drewN ?_ _ | refine blk_drew ?_ | refine blk_alloc ?_ _)); exact BK197.out) hb); have n3_ := Aside0.mk (below_step (by repeat (first | (with_reducible first | exact HB.out | apply below_alloc | apply pw_below_drewN | apply below_drew1 | refine below_set ?_ GE196.out | refine below_set ?_ GE197.out) | exact HB.out)) hb); clear BK196; clear BK197; clear HB; have HO209 := n0_; have BK196 := n1_; have BK197 := n2_; have HB := n3_; clear n0_ n1_ n2_ n3_; (try clear hb); (try clear hb2); (try clear hk); (try clear hi); (try clear ho0); obtain ⟨Ao80, co80, eo80⟩ := Kd.R_slice HO209.out; subst eo80; have hcz81_0 : w79.cell? ⟨gb197, 0, none⟩ = some (.string t200) := (blk_cell BK197.out 0).trans rfl; have hcz81_1 : w79.cell? ⟨gb197, 1, none⟩ = some (.slice none 0 0) := (blk_cell BK197.out 1).trans rfl; have hcz81_2 : w79.cell? ⟨gb197, 2, none⟩ = some (.slice none 0 0) := (blk_cell BK197.out 2).trans rfl; have hfz81_0 := blk_frozen BK197.out 0; have hfz81_1 := blk_frozen BK197.out 1; have hfz81_2 := blk_frozen BK197.out 2; have hcz82_0 : w79.cell? ⟨gb196, 0, none⟩ = some (.string (⟨#[]⟩ : ByteArray)) := (blk_cell BK196.out 0).trans rfl; have hcz82_1 : w79.cell? ⟨gb196, 1, none⟩ = some (.slice none 0 0) := (blk_cell BK196.out 1).trans rfl; have hcz82_2 : w79.cell? ⟨gb196, 2, none⟩ = some (.slice none 0 0) := (blk_cell BK196.out 2).trans rfl; have hfz82_0 := blk_frozen BK196.out 0; have hfz82_1 := blk_frozen BK196.out 1; have hfz82_2 := blk_frozen BK196.out 2))
          refine bodyPost_ret (results_ctt rfl _ _ gb196 33 #[.string (⟨#[]⟩ : ByteArray), .slice none 0 0, .slice none 0 0] (0, 0) _ rfl (by (with_reducible repeat (first | refine blk_drewN ?_ _ | refine blk_drew ?_ | refine blk_alloc ?_ _)); refine blk_put (cs := #[.string (⟨#[]⟩ : ByteArray), .slice none 0 0, .slice none 0 0]) ?_ 2 _ rfl; (with_reducible repeat (first | refine blk_drewN ?_ _ | refine blk_drew ?_ | refine blk_alloc ?_ _)); refine blk_put (cs := #[.string (⟨#[]⟩ : ByteArray), .slice none 0 0, .slice none 0 0]) ?_ 1 _ rfl; (with_reducible repeat (first | refine blk_drewN ?_ _ | refine blk_drew ?_ | refine blk_alloc ?_ _)); refine blk_put (cs := #[.string (⟨#[]⟩ : ByteArray), .slice none 0 0, .slice none 0 0]) ?_ 0 _ rfl; (with_reducible repeat (first | refine blk_drewN ?_ _ | refine blk_drew ?_ | refine blk_alloc ?_ _)); refine blk_far ?_ NB196_197.out _; (with_reducible repeat (first | refine blk_drewN ?_ _ | refine blk_drew ?_ | refine blk_alloc ?_ _)); exact BK196.out) Try.underlying33 rfl (by kernel_rfl)) rfl ?_
          exact ⟨_, _, by first | rfl | (simp [errW_none, errW_some] <;> rfl) | (simp [*, errW_none, errW_some] <;> rfl), by first | exact Kd.R_nil _ _ _ _ _ | exact Kd.N_nil _ _ _ _ _ | exact Kd.V_nil _ _ _ _ _ | exact Kd.Q_nil _ _ _ _ _ | exact Kd.S_nil _ _ _ _ _, by first | exact Kd.S_nil _ _ _ _ _ | exact Kd.N_nil _ _ _ _ _ | exact Kd.V_nil _ _ _ _ _ | exact Kd.Q_nil _ _ _ _ _ | exact Kd.R_nil _ _ _ _ _, by repeat (first | (with_reducible first | exact HB.out | apply below_alloc | apply pw_below_drewN | apply below_drew1 | refine below_set ?_ GE196.out | refine below_set ?_ GE197.out) | exact HB.out)⟩
      · replace c7 := Bool.eq_false_iff.mpr c7
        subst c7
        have H1 : (some ((⟨#[]⟩ : ByteArray), ([] : List ByteArray), ([] : List (S66)), t203, false)) = some (r1, r2, r3, r4, r5) := by rw [if_neg (show ¬ (false = true) by decide)] at H; exact H
        clear H
        have H := H1
        clear H1
        simp only [Option.some.injEq, Prod.mk.injEq] at H
        obtain ⟨rfl, rfl, rfl, rfl, rfl⟩ := H
        go_enter Try.func10, Try.ntmps10
        go_wp2_with (first | ((with_reducible refine gate_dst (N := 2) rfl ?_); (try (refine gate_guard (by rfl) ?_; dsimp only)); refine box_event ?hg (N := 2) ?hd (cs := #[.string (⟨#[]⟩ : ByteArray), .slice none 0 0, .slice none 0 0]) (t := 33) ?hr ?_; (case hd => rfl); (case hg => rfl); (case hr => first | (go_simp; done) | (go_simp; rfl)); intro gb196 hg w83 hbox hb; have n0_ := Aside0.mk (below_step (by repeat (first | (with_reducible first | exact HB.out | apply below_alloc | apply pw_below_drewN | apply below_drew1) | exact HB.out)) hb); have n1_ := Aside0.mk (hbox); have n2_ := Aside0.mk ((by rw [hg]; exact (below_size (by repeat (first | (with_reducible first | exact HB.out | apply below_alloc | apply pw_below_drewN | apply below_drew1) | exact HB.out))) : w.heap.size ≤ gb196)); have n3_ := Aside0.mk ((by rw [hg]; exact (below_size (by repeat (first | (with_reducible first | exact HB.out | apply below_alloc | apply pw_below_drewN | apply below_drew1) | exact HB.out))) : w.heap.size ≤ gb196)); clear HB; have HB := n0_; have BK196 := n1_; have GW196 := n2_; have GE196 := n3_; clear n0_ n1_ n2_ n3_; clear hb hbox hg) | ((with_reducible refine gate_dst (N := 5) rfl ?_); (try (refine gate_guard (by rfl) ?_; dsimp only)); refine box_event ?hg (N := 5) ?hd (cs := #[.string (⟨#[]⟩ : ByteArray), .slice none 0 0, .slice none 0 0]) (t := 33) ?hr ?_; (case hd => rfl); (case hg => rfl); (case hr => first | (go_simp; done) | (go_simp; rfl)); intro gb197 hg w84 hbox hb; have n0_ := Aside0.mk (blk_below (g := gb196) (o := .cells #[.string (⟨#[]⟩ : ByteArray), .slice none 0 0, .slice none 0 0] 33 (0, 0)) (by (with_reducible repeat (first | refine blk_drewN ?_ _ | refine blk_drew ?_ | refine blk_alloc ?_ _)); exact BK196.out) hb); have n1_ := Aside0.mk (below_step (by repeat (first | (with_reducible first | exact HB.out | apply below_alloc | apply pw_below_drewN | apply below_drew1 | refine below_set ?_ GE196.out) | exact HB.out)) hb); have n2_ := Aside0.mk (hbox); have n3_ := Aside0.mk ((by rw [hg]; exact (below_size (by repeat (first | (with_reducible first | exact HB.out | apply below_alloc | apply pw_below_drewN | apply below_drew1 | refine below_set ?_ GE196.out) | exact HB.out))) : w.heap.size ≤ gb197)); have n4_ := Aside0.mk ((by rw [hg]; exact (below_size (by repeat (first | (with_reducible first | exact HB.out | apply below_alloc | apply pw_below_drewN | apply below_drew1 | refine below_set ?_ GE196.out) | exact HB.out))) : w.heap.size ≤ gb197)); have n5_ := Aside0.mk ((by rw [hg]; exact Nat.ne_of_lt (blk_lt (g := gb196) (o := .cells #[.string (⟨#[]⟩ : ByteArray), .slice none 0 0, .slice none 0 0] 33 (0, 0)) (by (with_reducible repeat (first | refine blk_drewN ?_ _ | refine blk_drew ?_ | refine blk_alloc ?_ _)); exact BK196.out)) : gb196 ≠ gb197)); have n6_ := Aside0.mk ((by rw [hg]; exact Nat.ne_of_gt (blk_lt (g := gb196) (o := .cells #[.string (⟨#[]⟩ : ByteArray), .slice none 0 0, .slice none 0 0] 33 (0, 0)) (by (with_reducible repeat (first | refine blk_drewN ?_ _ | refine blk_drew ?_ | refine blk_alloc ?_ _)); exact BK196.out)) : gb197 ≠ gb196)); clear BK196; clear HB; have BK196 := n0_; have HB := n1_; have BK197 := n2_; have GW197 := n3_; have GE197 := n4_; have NB196_197 := n5_; have NB197_196 := n6_; clear n0_ n1_ n2_ n3_ n4_ n5_ n6_; clear hb hbox hg) | ((with_reducible refine gate_callee (f := 23) rfl ?_); refine goesL_ (some 10) rfl rfl Try.func23 (by kernel_rfl) rfl #[.string a0, .int .i64 0, .string (⟨#[82, 101, 99, 105, 112, 101, 40]⟩ : ByteArray)] rfl (by (try simp only [List.map_toArray, List.map_cons, List.map_nil]); first | done | rfl | (simp only [List.length_drop, List.length_take]; rfl)) ?_; (with_reducible refine (depotref21_word.calls k a0 0 (⟨#[82, 101, 99, 105, 112, 101, 40]⟩ : ByteArray) t198 true _ A2.out).mono ?_); rintro e w' ⟨rfl, ⟨nd, rfl⟩⟩; refine ⟨_, rfl, ?_⟩; (try (rw [drewN_self w84]; generalize hq_ : World.drewN w84 _ = w84; have n0_ : Aside0 (w84.heap[gb196]? = some (.cells #[.string (⟨#[]⟩ : ByteArray), .slice none 0 0, .slice none 0 0] 33 (0, 0))) := ⟨by rw [← hq_]; exact (by (with_reducible repeat (first | refine blk_drewN ?_ _ | refine blk_drew ?_ | refine blk_alloc ?_ _)); exact BK196.out)⟩; have n1_ : Aside0 (w84.heap[gb197]? = some (.cells #[.string (⟨#[]⟩ : ByteArray), .slice none 0 0, .slice none 0 0] 33 (0, 0))) := ⟨by rw [← hq_]; exact (by (with_reducible repeat (first | refine blk_drewN ?_ _ | refine blk_drew ?_ | refine blk_alloc ?_ _)); exact BK197.out)⟩; have n2_ : Aside0 (Below w.heap.size w w84) := ⟨by rw [← hq_]; exact (by repeat (first | (with_reducible first | exact HB.out | apply below_alloc | apply pw_below_drewN | apply below_drew1 | refine below_set ?_ GE196.out | refine below_set ?_ GE197.out) | exact HB.out))⟩; clear BK196 BK197 HB hq_; have BK196 := n0_; have BK197 := n1_; have HB := n2_; clear n0_ n1_ n2_))) | ((with_reducible refine gate_callee (f := 24) rfl ?_); refine goesL_ (some 20) rfl rfl Try.func24 (by kernel_rfl) rfl #[.string a0, .int .i64 t198] rfl (by (try simp only [List.map_toArray, List.map_cons, List.map_nil]); first | done | rfl | (simp only [List.length_drop, List.length_take]; rfl)) ?_; (with_reducible refine (depotref21_str.calls k a0 t198 t200 t201 true _ A4.out).mono ?_); rintro e w85 ⟨rfl, hb⟩; refine ⟨_, rfl, ?_⟩; have n0_ := Aside0.mk (blk_below (g := gb196) (o := .cells #[.string (⟨#[]⟩ : ByteArray), .slice none 0 0, .slice none 0 0] 33 (0, 0)) (by (with_reducible repeat (first | refine blk_drewN ?_ _ | refine blk_drew ?_ | refine blk_alloc ?_ _)); exact BK196.out) hb); have n1_ := Aside0.mk (blk_below (g := gb197) (o := .cells #[.string (⟨#[]⟩ : ByteArray), .slice none 0 0, .slice none 0 0] 33 (0, 0)) (by (with_reducible repeat (first | refine blk_drewN ?_ _ | refine blk_drew ?_ | refine blk_alloc ?_ _)); exact BK197.out) hb); have n2_ := Aside0.mk (below_step (by repeat (first | (with_reducible first | exact HB.out | apply below_alloc | apply pw_below_drewN | apply below_drew1 | refine below_set ?_ GE196.out | refine below_set ?_ GE197.out) | exact HB.out)) hb); clear BK196; clear BK197; clear HB; have BK196 := n0_; have BK197 := n1_; have HB := n2_; clear n0_ n1_ n2_; (try clear hb); (try clear hb2); (try clear hk); (try clear hi); have hnb86 := NB197_196.out; have hnc86 := NB196_197.out; have hcz87_0 : w85.cell? ⟨gb197, 0, none⟩ = some (.string (⟨#[]⟩ : ByteArray)) := (blk_cell BK197.out 0).trans rfl; have hcz87_1 : w85.cell? ⟨gb197, 1, none⟩ = some (.slice none 0 0) := (blk_cell BK197.out 1).trans rfl; have hcz87_2 : w85.cell? ⟨gb197, 2, none⟩ = some (.slice none 0 0) := (blk_cell BK197.out 2).trans rfl; have hfz87_0 := blk_frozen BK197.out 0; have hfz87_1 := blk_frozen BK197.out 1; have hfz87_2 := blk_frozen BK197.out 2) | ((with_reducible refine gate_callee (f := 23) rfl ?_); refine goesL_ (some 32) rfl rfl Try.func23 (by kernel_rfl) rfl #[.string a0, .int .i64 t201, .string (⟨#[44, 91]⟩ : ByteArray)] rfl (by (try simp only [List.map_toArray, List.map_cons, List.map_nil]); first | done | rfl | (simp only [List.length_drop, List.length_take]; rfl)) ?_; (with_reducible refine (depotref21_word.calls k a0 t201 (⟨#[44, 91]⟩ : ByteArray) t203 false _ A6.out).mono ?_); rintro e w' ⟨rfl, ⟨nd, rfl⟩⟩; refine ⟨_, rfl, ?_⟩; have hcz88_0 : w85.cell? ⟨gb196, 0, none⟩ = some (.string (⟨#[]⟩ : ByteArray)) := (blk_cell BK196.out 0).trans rfl; have hcz88_1 : w85.cell? ⟨gb196, 1, none⟩ = some (.slice none 0 0) := (blk_cell BK196.out 1).trans rfl; have hcz88_2 : w85.cell? ⟨gb196, 2, none⟩ = some (.slice none 0 0) := (blk_cell BK196.out 2).trans rfl; have hfz88_0 := blk_frozen BK196.out 0; have hfz88_1 := blk_frozen BK196.out 1; have hfz88_2 := blk_frozen BK196.out 2))
        refine bodyPost_ret (results_ctt rfl _ _ gb196 33 #[.string (⟨#[]⟩ : ByteArray), .slice none 0 0, .slice none 0 0] (0, 0) _ rfl (by (with_reducible repeat (first | refine blk_drewN ?_ _ | refine blk_drew ?_ | refine blk_alloc ?_ _)); refine blk_put (cs := #[.string (⟨#[]⟩ : ByteArray), .slice none 0 0, .slice none 0 0]) ?_ 2 _ rfl; (with_reducible repeat (first | refine blk_drewN ?_ _ | refine blk_drew ?_ | refine blk_alloc ?_ _)); refine blk_put (cs := #[.string (⟨#[]⟩ : ByteArray), .slice none 0 0, .slice none 0 0]) ?_ 1 _ rfl; (with_reducible repeat (first | refine blk_drewN ?_ _ | refine blk_drew ?_ | refine blk_alloc ?_ _)); refine blk_put (cs := #[.string (⟨#[]⟩ : ByteArray), .slice none 0 0, .slice none 0 0]) ?_ 0 _ rfl; (with_reducible repeat (first | refine blk_drewN ?_ _ | refine blk_drew ?_ | refine blk_alloc ?_ _)); refine blk_far ?_ NB196_197.out _; (with_reducible repeat (first | refine blk_drewN ?_ _ | refine blk_drew ?_ | refine blk_alloc ?_ _)); exact BK196.out) Try.underlying33 rfl (by kernel_rfl)) rfl ?_
        exact ⟨_, _, by first | rfl | (simp [errW_none, errW_some] <;> rfl) | (simp [*, errW_none, errW_some] <;> rfl), by first | exact Kd.R_nil _ _ _ _ _ | exact Kd.N_nil _ _ _ _ _ | exact Kd.V_nil _ _ _ _ _ | exact Kd.Q_nil _ _ _ _ _ | exact Kd.S_nil _ _ _ _ _, by first | exact Kd.S_nil _ _ _ _ _ | exact Kd.N_nil _ _ _ _ _ | exact Kd.V_nil _ _ _ _ _ | exact Kd.Q_nil _ _ _ _ _ | exact Kd.R_nil _ _ _ _ _, by repeat (first | (with_reducible first | exact HB.out | apply below_alloc | apply pw_below_drewN | apply below_drew1 | refine below_set ?_ GE196.out | refine below_set ?_ GE197.out) | exact HB.out)⟩
    · replace c5 := Bool.eq_false_iff.mpr c5
      subst c5
      have H1 : (some ((⟨#[]⟩ : ByteArray), ([] : List ByteArray), ([] : List (S66)), t201, false)) = some (r1, r2, r3, r4, r5) := by rw [if_neg (show ¬ (false = true) by decide)] at H; exact H
      clear H
      have H := H1
      clear H1
      simp only [Option.some.injEq, Prod.mk.injEq] at H
      obtain ⟨rfl, rfl, rfl, rfl, rfl⟩ := H
      go_enter Try.func10, Try.ntmps10
      go_wp2_with (first | ((with_reducible refine gate_dst (N := 2) rfl ?_); (try (refine gate_guard (by rfl) ?_; dsimp only)); refine box_event ?hg (N := 2) ?hd (cs := #[.string (⟨#[]⟩ : ByteArray), .slice none 0 0, .slice none 0 0]) (t := 33) ?hr ?_; (case hd => rfl); (case hg => rfl); (case hr => first | (go_simp; done) | (go_simp; rfl)); intro gb196 hg w89 hbox hb; have n0_ := Aside0.mk (below_step (by repeat (first | (with_reducible first | exact HB.out | apply below_alloc | apply pw_below_drewN | apply below_drew1) | exact HB.out)) hb); have n1_ := Aside0.mk (hbox); have n2_ := Aside0.mk ((by rw [hg]; exact (below_size (by repeat (first | (with_reducible first | exact HB.out | apply below_alloc | apply pw_below_drewN | apply below_drew1) | exact HB.out))) : w.heap.size ≤ gb196)); have n3_ := Aside0.mk ((by rw [hg]; exact (below_size (by repeat (first | (with_reducible first | exact HB.out | apply below_alloc | apply pw_below_drewN | apply below_drew1) | exact HB.out))) : w.heap.size ≤ gb196)); clear HB; have HB := n0_; have BK196 := n1_; have GW196 := n2_; have GE196 := n3_; clear n0_ n1_ n2_ n3_; clear hb hbox hg) | ((with_reducible refine gate_dst (N := 5) rfl ?_); (try (refine gate_guard (by rfl) ?_; dsimp only)); refine box_event ?hg (N := 5) ?hd (cs := #[.string (⟨#[]⟩ : ByteArray), .slice none 0 0, .slice none 0 0]) (t := 33) ?hr ?_; (case hd => rfl); (case hg => rfl); (case hr => first | (go_simp; done) | (go_simp; rfl)); intro gb197 hg w90 hbox hb; have n0_ := Aside0.mk (blk_below (g := gb196) (o := .cells #[.string (⟨#[]⟩ : ByteArray), .slice none 0 0, .slice none 0 0] 33 (0, 0)) (by (with_reducible repeat (first | refine blk_drewN ?_ _ | refine blk_drew ?_ | refine blk_alloc ?_ _)); exact BK196.out) hb); have n1_ := Aside0.mk (below_step (by repeat (first | (with_reducible first | exact HB.out | apply below_alloc | apply pw_below_drewN | apply below_drew1 | refine below_set ?_ GE196.out) | exact HB.out)) hb); have n2_ := Aside0.mk (hbox); have n3_ := Aside0.mk ((by rw [hg]; exact (below_size (by repeat (first | (with_reducible first | exact HB.out | apply below_alloc | apply pw_below_drewN | apply below_drew1 | refine below_set ?_ GE196.out) | exact HB.out))) : w.heap.size ≤ gb197)); have n4_ := Aside0.mk ((by rw [hg]; exact (below_size (by repeat (first | (with_reducible first | exact HB.out | apply below_alloc | apply pw_below_drewN | apply below_drew1 | refine below_set ?_ GE196.out) | exact HB.out))) : w.heap.size ≤ gb197)); have n5_ := Aside0.mk ((by rw [hg]; exact Nat.ne_of_lt (blk_lt (g := gb196) (o := .cells #[.string (⟨#[]⟩ : ByteArray), .slice none 0 0, .slice none 0 0] 33 (0, 0)) (by (with_reducible repeat (first | refine blk_drewN ?_ _ | refine blk_drew ?_ | refine blk_alloc ?_ _)); exact BK196.out)) : gb196 ≠ gb197)); have n6_ := Aside0.mk ((by rw [hg]; exact Nat.ne_of_gt (blk_lt (g := gb196) (o := .cells #[.string (⟨#[]⟩ : ByteArray), .slice none 0 0, .slice none 0 0] 33 (0, 0)) (by (with_reducible repeat (first | refine blk_drewN ?_ _ | refine blk_drew ?_ | refine blk_alloc ?_ _)); exact BK196.out)) : gb197 ≠ gb196)); clear BK196; clear HB; have BK196 := n0_; have HB := n1_; have BK197 := n2_; have GW197 := n3_; have GE197 := n4_; have NB196_197 := n5_; have NB197_196 := n6_; clear n0_ n1_ n2_ n3_ n4_ n5_ n6_; clear hb hbox hg) | ((with_reducible refine gate_callee (f := 23) rfl ?_); refine goesL_ (some 10) rfl rfl Try.func23 (by kernel_rfl) rfl #[.string a0, .int .i64 0, .string (⟨#[82, 101, 99, 105, 112, 101, 40]⟩ : ByteArray)] rfl (by (try simp only [List.map_toArray, List.map_cons, List.map_nil]); first | done | rfl | (simp only [List.length_drop, List.length_take]; rfl)) ?_; (with_reducible refine (depotref21_word.calls k a0 0 (⟨#[82, 101, 99, 105, 112, 101, 40]⟩ : ByteArray) t198 true _ A2.out).mono ?_); rintro e w' ⟨rfl, ⟨nd, rfl⟩⟩; refine ⟨_, rfl, ?_⟩; (try (rw [drewN_self w90]; generalize hq_ : World.drewN w90 _ = w90; have n0_ : Aside0 (w90.heap[gb196]? = some (.cells #[.string (⟨#[]⟩ : ByteArray), .slice none 0 0, .slice none 0 0] 33 (0, 0))) := ⟨by rw [← hq_]; exact (by (with_reducible repeat (first | refine blk_drewN ?_ _ | refine blk_drew ?_ | refine blk_alloc ?_ _)); exact BK196.out)⟩; have n1_ : Aside0 (w90.heap[gb197]? = some (.cells #[.string (⟨#[]⟩ : ByteArray), .slice none 0 0, .slice none 0 0] 33 (0, 0))) := ⟨by rw [← hq_]; exact (by (with_reducible repeat (first | refine blk_drewN ?_ _ | refine blk_drew ?_ | refine blk_alloc ?_ _)); exact BK197.out)⟩; have n2_ : Aside0 (Below w.heap.size w w90) := ⟨by rw [← hq_]; exact (by repeat (first | (with_reducible first | exact HB.out | apply below_alloc | apply pw_below_drewN | apply below_drew1 | refine below_set ?_ GE196.out | refine below_set ?_ GE197.out) | exact HB.out))⟩; clear BK196 BK197 HB hq_; have BK196 := n0_; have BK197 := n1_; have HB := n2_; clear n0_ n1_ n2_))) | ((with_reducible refine gate_callee (f := 24) rfl ?_); refine goesL_ (some 20) rfl rfl Try.func24 (by kernel_rfl) rfl #[.string a0, .int .i64 t198] rfl (by (try simp only [List.map_toArray, List.map_cons, List.map_nil]); first | done | rfl | (simp only [List.length_drop, List.length_take]; rfl)) ?_; (with_reducible refine (depotref21_str.calls k a0 t198 t200 t201 false _ A4.out).mono ?_); rintro e w91 ⟨rfl, hb⟩; refine ⟨_, rfl, ?_⟩; have n0_ := Aside0.mk (blk_below (g := gb196) (o := .cells #[.string (⟨#[]⟩ : ByteArray), .slice none 0 0, .slice none 0 0] 33 (0, 0)) (by (with_reducible repeat (first | refine blk_drewN ?_ _ | refine blk_drew ?_ | refine blk_alloc ?_ _)); exact BK196.out) hb); have n1_ := Aside0.mk (blk_below (g := gb197) (o := .cells #[.string (⟨#[]⟩ : ByteArray), .slice none 0 0, .slice none 0 0] 33 (0, 0)) (by (with_reducible repeat (first | refine blk_drewN ?_ _ | refine blk_drew ?_ | refine blk_alloc ?_ _)); exact BK197.out) hb); have n2_ := Aside0.mk (below_step (by repeat (first | (with_reducible first | exact HB.out | apply below_alloc | apply pw_below_drewN | apply below_drew1 | refine below_set ?_ GE196.out | refine below_set ?_ GE197.out) | exact HB.out)) hb); clear BK196; clear BK197; clear HB; have BK196 := n0_; have BK197 := n1_; have HB := n2_; clear n0_ n1_ n2_; (try clear hb); (try clear hb2); (try clear hk); (try clear hi); have hnb92 := NB197_196.out; have hnc92 := NB196_197.out; have hcz93_0 : w91.cell? ⟨gb197, 0, none⟩ = some (.string (⟨#[]⟩ : ByteArray)) := (blk_cell BK197.out 0).trans rfl; have hcz93_1 : w91.cell? ⟨gb197, 1, none⟩ = some (.slice none 0 0) := (blk_cell BK197.out 1).trans rfl; have hcz93_2 : w91.cell? ⟨gb197, 2, none⟩ = some (.slice none 0 0) := (blk_cell BK197.out 2).trans rfl; have hfz93_0 := blk_frozen BK197.out 0; have hfz93_1 := blk_frozen BK197.out 1; have hfz93_2 := blk_frozen BK197.out 2; have hcz94_0 : w91.cell? ⟨gb196, 0, none⟩ = some (.string (⟨#[]⟩ : ByteArray)) := (blk_cell BK196.out 0).trans rfl; have hcz94_1 : w91.cell? ⟨gb196, 1, none⟩ = some (.slice none 0 0) := (blk_cell BK196.out 1).trans rfl; have hcz94_2 : w91.cell? ⟨gb196, 2, none⟩ = some (.slice none 0 0) := (blk_cell BK196.out 2).trans rfl; have hfz94_0 := blk_frozen BK196.out 0; have hfz94_1 := blk_frozen BK196.out 1; have hfz94_2 := blk_frozen BK196.out 2))
      refine bodyPost_ret (results_ctt rfl _ _ gb196 33 #[.string (⟨#[]⟩ : ByteArray), .slice none 0 0, .slice none 0 0] (0, 0) _ rfl (by (with_reducible repeat (first | refine blk_drewN ?_ _ | refine blk_drew ?_ | refine blk_alloc ?_ _)); refine blk_put (cs := #[.string (⟨#[]⟩ : ByteArray), .slice none 0 0, .slice none 0 0]) ?_ 2 _ rfl; (with_reducible repeat (first | refine blk_drewN ?_ _ | refine blk_drew ?_ | refine blk_alloc ?_ _)); refine blk_put (cs := #[.string (⟨#[]⟩ : ByteArray), .slice none 0 0, .slice none 0 0]) ?_ 1 _ rfl; (with_reducible repeat (first | refine blk_drewN ?_ _ | refine blk_drew ?_ | refine blk_alloc ?_ _)); refine blk_put (cs := #[.string (⟨#[]⟩ : ByteArray), .slice none 0 0, .slice none 0 0]) ?_ 0 _ rfl; (with_reducible repeat (first | refine blk_drewN ?_ _ | refine blk_drew ?_ | refine blk_alloc ?_ _)); refine blk_far ?_ NB196_197.out _; (with_reducible repeat (first | refine blk_drewN ?_ _ | refine blk_drew ?_ | refine blk_alloc ?_ _)); exact BK196.out) Try.underlying33 rfl (by kernel_rfl)) rfl ?_
      exact ⟨_, _, by first | rfl | (simp [errW_none, errW_some] <;> rfl) | (simp [*, errW_none, errW_some] <;> rfl), by first | exact Kd.R_nil _ _ _ _ _ | exact Kd.N_nil _ _ _ _ _ | exact Kd.V_nil _ _ _ _ _ | exact Kd.Q_nil _ _ _ _ _ | exact Kd.S_nil _ _ _ _ _, by first | exact Kd.S_nil _ _ _ _ _ | exact Kd.N_nil _ _ _ _ _ | exact Kd.V_nil _ _ _ _ _ | exact Kd.Q_nil _ _ _ _ _ | exact Kd.R_nil _ _ _ _ _, by repeat (first | (with_reducible first | exact HB.out | apply below_alloc | apply pw_below_drewN | apply below_drew1 | refine below_set ?_ GE196.out | refine below_set ?_ GE197.out) | exact HB.out)⟩
  · replace c3 := Bool.eq_false_iff.mpr c3
    subst c3
    have H1 : (some ((⟨#[]⟩ : ByteArray), ([] : List ByteArray), ([] : List (S66)), t198, false)) = some (r1, r2, r3, r4, r5) := by rw [if_neg (show ¬ (false = true) by decide)] at H; exact H
    clear H
    have H := H1
    clear H1
    simp only [Option.some.injEq, Prod.mk.injEq] at H
    obtain ⟨rfl, rfl, rfl, rfl, rfl⟩ := H
    go_enter Try.func10, Try.ntmps10
    go_wp2_with (first | ((with_reducible refine gate_dst (N := 2) rfl ?_); (try (refine gate_guard (by rfl) ?_; dsimp only)); refine box_event ?hg (N := 2) ?hd (cs := #[.string (⟨#[]⟩ : ByteArray), .slice none 0 0, .slice none 0 0]) (t := 33) ?hr ?_; (case hd => rfl); (case hg => rfl); (case hr => first | (go_simp; done) | (go_simp; rfl)); intro gb196 hg w95 hbox hb; have n0_ := Aside0.mk (below_step (by repeat (first | (with_reducible first | exact HB.out | apply below_alloc | apply pw_below_drewN | apply below_drew1) | exact HB.out)) hb); have n1_ := Aside0.mk (hbox); have n2_ := Aside0.mk ((by rw [hg]; exact (below_size (by repeat (first | (with_reducible first | exact HB.out | apply below_alloc | apply pw_below_drewN | apply below_drew1) | exact HB.out))) : w.heap.size ≤ gb196)); have n3_ := Aside0.mk ((by rw [hg]; exact (below_size (by repeat (first | (with_reducible first | exact HB.out | apply below_alloc | apply pw_below_drewN | apply below_drew1) | exact HB.out))) : w.heap.size ≤ gb196)); clear HB; have HB := n0_; have BK196 := n1_; have GW196 := n2_; have GE196 := n3_; clear n0_ n1_ n2_ n3_; clear hb hbox hg) | ((with_reducible refine gate_dst (N := 5) rfl ?_); (try (refine gate_guard (by rfl) ?_; dsimp only)); refine box_event ?hg (N := 5) ?hd (cs := #[.string (⟨#[]⟩ : ByteArray), .slice none 0 0, .slice none 0 0]) (t := 33) ?hr ?_; (case hd => rfl); (case hg => rfl); (case hr => first | (go_simp; done) | (go_simp; rfl)); intro gb197 hg w96 hbox hb; have n0_ := Aside0.mk (blk_below (g := gb196) (o := .cells #[.string (⟨#[]⟩ : ByteArray), .slice none 0 0, .slice none 0 0] 33 (0, 0)) (by (with_reducible repeat (first | refine blk_drewN ?_ _ | refine blk_drew ?_ | refine blk_alloc ?_ _)); exact BK196.out) hb); have n1_ := Aside0.mk (below_step (by repeat (first | (with_reducible first | exact HB.out | apply below_alloc | apply pw_below_drewN | apply below_drew1 | refine below_set ?_ GE196.out) | exact HB.out)) hb); have n2_ := Aside0.mk (hbox); have n3_ := Aside0.mk ((by rw [hg]; exact (below_size (by repeat (first | (with_reducible first | exact HB.out | apply below_alloc | apply pw_below_drewN | apply below_drew1 | refine below_set ?_ GE196.out) | exact HB.out))) : w.heap.size ≤ gb197)); have n4_ := Aside0.mk ((by rw [hg]; exact (below_size (by repeat (first | (with_reducible first | exact HB.out | apply below_alloc | apply pw_below_drewN | apply below_drew1 | refine below_set ?_ GE196.out) | exact HB.out))) : w.heap.size ≤ gb197)); have n5_ := Aside0.mk ((by rw [hg]; exact Nat.ne_of_lt (blk_lt (g := gb196) (o := .cells #[.string (⟨#[]⟩ : ByteArray), .slice none 0 0, .slice none 0 0] 33 (0, 0)) (by (with_reducible repeat (first | refine blk_drewN ?_ _ | refine blk_drew ?_ | refine blk_alloc ?_ _)); exact BK196.out)) : gb196 ≠ gb197)); have n6_ := Aside0.mk ((by rw [hg]; exact Nat.ne_of_gt (blk_lt (g := gb196) (o := .cells #[.string (⟨#[]⟩ : ByteArray), .slice none 0 0, .slice none 0 0] 33 (0, 0)) (by (with_reducible repeat (first | refine blk_drewN ?_ _ | refine blk_drew ?_ | refine blk_alloc ?_ _)); exact BK196.out)) : gb197 ≠ gb196)); clear BK196; clear HB; have BK196 := n0_; have HB := n1_; have BK197 := n2_; have GW197 := n3_; have GE197 := n4_; have NB196_197 := n5_; have NB197_196 := n6_; clear n0_ n1_ n2_ n3_ n4_ n5_ n6_; clear hb hbox hg) | ((with_reducible refine gate_callee (f := 23) rfl ?_); refine goesL_ (some 10) rfl rfl Try.func23 (by kernel_rfl) rfl #[.string a0, .int .i64 0, .string (⟨#[82, 101, 99, 105, 112, 101, 40]⟩ : ByteArray)] rfl (by (try simp only [List.map_toArray, List.map_cons, List.map_nil]); first | done | rfl | (simp only [List.length_drop, List.length_take]; rfl)) ?_; (with_reducible refine (depotref21_word.calls k a0 0 (⟨#[82, 101, 99, 105, 112, 101, 40]⟩ : ByteArray) t198 false _ A2.out).mono ?_); rintro e w' ⟨rfl, ⟨nd, rfl⟩⟩; refine ⟨_, rfl, ?_⟩; (try (rw [drewN_self w96]; generalize hq_ : World.drewN w96 _ = w96; have n0_ : Aside0 (w96.heap[gb196]? = some (.cells #[.string (⟨#[]⟩ : ByteArray), .slice none 0 0, .slice none 0 0] 33 (0, 0))) := ⟨by rw [← hq_]; exact (by (with_reducible repeat (first | refine blk_drewN ?_ _ | refine blk_drew ?_ | refine blk_alloc ?_ _)); exact BK196.out)⟩; have n1_ : Aside0 (w96.heap[gb197]? = some (.cells #[.string (⟨#[]⟩ : ByteArray), .slice none 0 0, .slice none 0 0] 33 (0, 0))) := ⟨by rw [← hq_]; exact (by (with_reducible repeat (first | refine blk_drewN ?_ _ | refine blk_drew ?_ | refine blk_alloc ?_ _)); exact BK197.out)⟩; have n2_ : Aside0 (Below w.heap.size w w96) := ⟨by rw [← hq_]; exact (by repeat (first | (with_reducible first | exact HB.out | apply below_alloc | apply pw_below_drewN | apply below_drew1 | refine below_set ?_ GE196.out | refine below_set ?_ GE197.out) | exact HB.out))⟩; clear BK196 BK197 HB hq_; have BK196 := n0_; have BK197 := n1_; have HB := n2_; clear n0_ n1_ n2_)); have hnb97 := NB196_197.out; have hnc97 := NB197_196.out; have hcz98_0 : w96.cell? ⟨gb196, 0, none⟩ = some (.string (⟨#[]⟩ : ByteArray)) := (blk_cell BK196.out 0).trans rfl; have hcz98_1 : w96.cell? ⟨gb196, 1, none⟩ = some (.slice none 0 0) := (blk_cell BK196.out 1).trans rfl; have hcz98_2 : w96.cell? ⟨gb196, 2, none⟩ = some (.slice none 0 0) := (blk_cell BK196.out 2).trans rfl; have hfz98_0 := blk_frozen BK196.out 0; have hfz98_1 := blk_frozen BK196.out 1; have hfz98_2 := blk_frozen BK196.out 2))
    refine bodyPost_ret (results_ctt rfl _ _ gb196 33 #[.string (⟨#[]⟩ : ByteArray), .slice none 0 0, .slice none 0 0] (0, 0) _ rfl (by (with_reducible repeat (first | refine blk_drewN ?_ _ | refine blk_drew ?_ | refine blk_alloc ?_ _)); refine blk_put (cs := #[.string (⟨#[]⟩ : ByteArray), .slice none 0 0, .slice none 0 0]) ?_ 2 _ rfl; (with_reducible repeat (first | refine blk_drewN ?_ _ | refine blk_drew ?_ | refine blk_alloc ?_ _)); refine blk_put (cs := #[.string (⟨#[]⟩ : ByteArray), .slice none 0 0, .slice none 0 0]) ?_ 1 _ rfl; (with_reducible repeat (first | refine blk_drewN ?_ _ | refine blk_drew ?_ | refine blk_alloc ?_ _)); refine blk_put (cs := #[.string (⟨#[]⟩ : ByteArray), .slice none 0 0, .slice none 0 0]) ?_ 0 _ rfl; (with_reducible repeat (first | refine blk_drewN ?_ _ | refine blk_drew ?_ | refine blk_alloc ?_ _)); exact BK196.out) Try.underlying33 rfl (by kernel_rfl)) rfl ?_
    exact ⟨_, _, by first | rfl | (simp [errW_none, errW_some] <;> rfl) | (simp [*, errW_none, errW_some] <;> rfl), by first | exact Kd.R_nil _ _ _ _ _ | exact Kd.N_nil _ _ _ _ _ | exact Kd.V_nil _ _ _ _ _ | exact Kd.Q_nil _ _ _ _ _ | exact Kd.S_nil _ _ _ _ _, by first | exact Kd.S_nil _ _ _ _ _ | exact Kd.N_nil _ _ _ _ _ | exact Kd.V_nil _ _ _ _ _ | exact Kd.Q_nil _ _ _ _ _ | exact Kd.R_nil _ _ _ _ _, by repeat (first | (with_reducible first | exact HB.out | apply below_alloc | apply pw_below_drewN | apply below_drew1 | refine below_set ?_ GE196.out | refine below_set ?_ GE197.out) | exact HB.out)⟩

end Go.Proofs.Ytdkkgeibifpgiaa.Q
/- The recipe's reference: steps, and Parse. -/
namespace Go.Proofs.Ytdkkgeibifpgiaa.Rc
open Go.RowKit Go.Proofs.YtdkkgeibifpgiaaW.PrintWords Go.Proofs.Ytdkkgeibifpgiaa.Bytes Go.Proofs.Ytdkkgeibifpgiaa.Q
set_option linter.unusedVariables false
set_option linter.unusedSimpArgs false

theorem list_rest {α : Type} (one : List UInt8 → Res α) (hone : ∀ s x r, one s = .ok x r → ∃ j, r = s.drop (j + 1) ∧ j + 1 ≤ s.length) (e : UInt8) : ∀ (n : Nat) (s : List UInt8) (xs : List α) (r : List UInt8), moreL one e n s = .ok xs r → ∃ j, r = s.drop (j + 1) ∧ j + 1 ≤ s.length
  | 0, s, xs, r, h => by cases h
  | n + 1, s, xs, r, h => by
    rw [moreL] at h
    split at h
    · rename_i h0
      cases h
      cases s with
      | nil => cases h0
      | cons y s => exact ⟨0, rfl, by simp⟩
    · cases hw : wordL [44] s with
      | bad l => rw [hw] at h; cases h
      | ok u r0 =>
        have hs := wordL_len _ _ _ hw
        rw [hw] at h
        cases ho : one r0 with
        | bad l => simp only [Res.bind, ho] at h; cases h
        | ok x r1 =>
          obtain ⟨j1, e1, l1⟩ := hone _ _ _ ho
          simp only [Res.bind, ho] at h
          cases hm : moreL one e n r1 with
          | bad l => rw [hm] at h; cases h
          | ok ys r2 =>
            obtain ⟨j2, e2, l2⟩ := list_rest one hone e n _ _ _ hm
            rw [hm] at h
            cases h
            have hd : s.drop 1 = r0 := by rw [hs]; rfl
            have hl : s.length = r0.length + 1 := by rw [hs]; simp
            have hl1 : r1.length = r0.length - (j1 + 1) := by rw [e1, List.length_drop]
            refine ⟨1 + (j1 + 1) + j2, ?_, by omega⟩
            rw [e2, e1, ← hd, List.drop_drop, List.drop_drop]
            congr 1
            omega
theorem strB_rest : ∀ s x r, strB s = .ok x r → ∃ j, r = s.drop (j + 1) ∧ j + 1 ≤ s.length := by
  intro s x r h
  unfold strB strL at h
  cases hw : wordL [34] s with
  | bad l => rw [hw] at h; cases h
  | ok u r0 =>
    have hs := wordL_len _ _ _ hw
    rw [hw] at h
    cases hb : strBody r0 with
    | bad l => simp only [Res.bind, hb] at h; cases h
    | ok y r1 =>
      simp only [Res.bind, hb] at h
      cases h
      obtain ⟨j, e1, l1⟩ := strBody_rest _ r0 (Nat.le_refl _) _ _ hb
      have hd : s.drop 1 = r0 := by rw [hs]; rfl
      have hl : s.length = r0.length + 1 := by rw [hs]; simp
      exact ⟨j + 1, by rw [e1, ← hd, List.drop_drop]; congr 1; omega, by omega⟩
/-- What is left behind a list is the text from a place on. -/
theorem listL_rest {α : Type} (one : List UInt8 → Res α) (hone : ∀ s x r, one s = .ok x r → ∃ j, r = s.drop (j + 1) ∧ j + 1 ≤ s.length) (e : UInt8) (none : Bool) (s : List UInt8) (xs : List α) (r : List UInt8) (h : listL one e none s = .ok xs r) : ∃ j, r = s.drop (j + 1) ∧ j + 1 ≤ s.length := by
  rw [listL] at h
  split at h
  · rename_i h0
    cases h
    cases s with
    | nil => cases h0.2
    | cons y s => exact ⟨0, rfl, by simp⟩
  · cases ho : one s with
    | bad l => rw [ho] at h; cases h
    | ok x r1 =>
      obtain ⟨j1, e1, l1⟩ := hone _ _ _ ho
      simp only [Res.bind, ho] at h
      cases hm : moreL one e (r1.length + 1) r1 with
      | bad l => rw [hm] at h; cases h
      | ok ys r2 =>
        obtain ⟨j2, e2, l2⟩ := list_rest one hone e _ _ _ _ hm
        rw [hm] at h
        cases h
        have hl1 : r1.length = s.length - (j1 + 1) := by rw [e1, List.length_drop]
        exact ⟨j1 + 1 + j2, by rw [e2, e1, List.drop_drop]; congr 1, by omega⟩
/-- The same, as places of the text. -/
theorem place_rest (T : ByteArray) (p : Nat) (hp : p ≤ T.size) (r : List UInt8) (h : ∃ j, r = ((bs T).drop p).drop (j + 1) ∧ j + 1 ≤ ((bs T).drop p).length) : ∃ q, p < q ∧ q ≤ T.size ∧ r = (bs T).drop q ∧ T.size - r.length = q := by
  obtain ⟨j, e, l⟩ := h
  rw [List.drop_drop] at e
  rw [List.length_drop, ← size_bs] at l
  have hl : r.length = T.size - (p + (j + 1)) := by rw [e, List.length_drop, ← size_bs]
  exact ⟨p + (j + 1), by omega, by omega, e, by omega⟩
theorem wordsL_rest : ∀ s x r, wordsL s = .ok x r → ∃ j, r = s.drop (j + 1) ∧ j + 1 ≤ s.length := by
  intro s x r h
  unfold wordsL at h
  cases hw : wordL [40] s with
  | bad l => rw [hw] at h; cases h
  | ok u r0 =>
    have hs := wordL_len _ _ _ hw
    rw [hw] at h
    obtain ⟨j, e1, l1⟩ := listL_rest strB strB_rest 41 false r0 x r h
    have hd : s.drop 1 = r0 := by rw [hs]; rfl
    have hl : s.length = r0.length + 1 := by rw [hs]; simp
    exact ⟨j + 1, by rw [e1, ← hd, List.drop_drop]; congr 1; omega, by omega⟩
theorem stepB_rest : ∀ s x r, stepB s = .ok x r → ∃ j, r = s.drop (j + 1) ∧ j + 1 ≤ s.length := by
  intro s x r h
  unfold stepB at h
  cases hw : wordsL s with
  | bad l => rw [hw] at h; cases h
  | ok y r0 =>
    rw [hw] at h
    cases h
    exact wordsL_rest _ _ _ hw
/-- The reference's steps, as the reader's. -/
def toRefT (n : Nat) (acc : List S66) (r : Res (List S47)) : List S66 × Int × Bool := toRefL n acc (r.map (List.map toR))
theorem toRefT_map (n : Nat) (acc : List S66) (c : S47) (r : Res (List S47)) : toRefT n acc (r.map (c :: ·)) = toRefT n (acc ++ [toR c]) r := by
  cases r with
  | ok l s => simp [toRefT, toRefL, Res.map]
  | bad l => rfl
theorem steps_law (T : ByteArray) (hT : T.size < 1099511627776) : ∀ (k p n : Nat) (acc : List S66), p ≤ T.size → acc.length ≤ p → 4 * (T.size - p) + 10 ≤ k → T.size - p < n →
    depotref21_steps.l0 k T (p : Int) acc = some (toRefT T.size acc ((stepB ((bs T).drop p)).bind fun x r => (moreL stepB 93 n r).map (x :: ·)))
  | 0, p, n, acc, hp, ha, hk, hn => by omega
  | k + 1, p, n, acc, hp, ha, hk, hn => by
    have e40 : bs (⟨#[40]⟩ : ByteArray) = [40] := rfl
    have e93 : bs (⟨#[93]⟩ : ByteArray) = [93] := rfl
    have e44 : bs (⟨#[44]⟩ : ByteArray) = [44] := rfl
    have eS : stepB ((bs T).drop p) = (wordsL ((bs T).drop p)).map (fun l => (⟨l.headD ⟨#[]⟩, l.tail⟩ : S47)) := rfl
    have eW : wordsL ((bs T).drop p) = (wordL [40] ((bs T).drop p)).bind fun _ r => listL strB 41 false r := rfl
    rw [depotref21_steps.l0, word_f T _ hT (by decide) k p hp (by show 1 < k; omega), Option.bind_some, e40]
    cases hw : wordL [40] ((bs T).drop p) with
    | bad l =>
      rw [if_neg (by simp [toRef]), eS, eW, hw]
      rfl
    | ok u r0 =>
      obtain ⟨hr0, h01, h02⟩ := word_rest T p hp [40] u r0 hw
      simp only [List.length_singleton] at hr0 h01 h02
      rw [if_pos (show (toRef T.size (Res.ok u r0)).2 = true from rfl)]
      show (depotref21_strs.f k T ((T.size - r0.length : Nat) : Int) _ false).bind _ = _
      rw [h02, strs_f T hT 41 false k (p + 1) h01 (by omega), Option.bind_some, ← hr0]
      cases hl : listL strB 41 false r0 with
      | bad l =>
        rw [if_neg (by simp [toRefL]), eS, eW, hw]
        simp only [Res.bind, hl]
        rfl
      | ok words r =>
        obtain ⟨_, x, xs, rfl⟩ := listL_some strB strB_prog 41 r0 words r hl
        obtain ⟨q, hq1, hq2, hr, hrl⟩ := place_rest T (p + 1) h01 r (by rw [← hr0]; exact listL_rest strB strB_rest 41 false r0 _ r hl)
        obtain ⟨m, rfl⟩ : ∃ m, n = m + 1 := ⟨n - 1, by omega⟩
        have hst : stepB ((bs T).drop p) = .ok ⟨x, xs⟩ r := by
          rw [eS, eW, hw]
          simp only [Res.bind, hl]
          rfl
        have hlen : (([] : List ByteArray) ++ x :: xs).length = xs.length + 1 := by simp
        rw [if_pos (show (toRefL T.size [] (Res.ok (x :: xs) r)).2.2 = true from rfl)]
        show (if 0 < (((([] : List ByteArray) ++ x :: xs).length : Nat) : Int) then _ else _) = _
        rw [if_pos (by rw [hlen]; omega)]
        show (if 1 ≤ (((([] : List ByteArray) ++ x :: xs).length : Nat) : Int) then _ else _) = _
        rw [if_pos (by rw [hlen]; omega), if_pos (by omega), Option.bind_some]
        show (depotref21_word.f k T ((T.size - r.length : Nat) : Int) _).bind _ = _
        rw [hrl, word_f T _ hT (by decide) k q hq2 (by show 1 < k; omega), Option.bind_some, e93, ← hr, hst]
        show _ = some (toRefT T.size acc ((moreL stepB 93 (m + 1) r).map (_ :: ·)))
        rw [toRefT_map, moreL]
        have hy : (⟨rdOf ByteArray.empty (toRefL T.size [] (Res.ok (x :: xs) r)).1 0, List.drop 1 (toRefL T.size [] (Res.ok (x :: xs) r)).1⟩ : S66) = toR ⟨x, xs⟩ := by simp [toRefL, toR, rdOf]
        rw [hy]
        by_cases hh : r.head? = some 93
        · rw [(one_word 93 r).1 hh, if_pos (show (toRef T.size (Res.ok () (r.drop 1))).2 = true from rfl), if_pos hh]
          simp [toRefT, toRefL, toRef, Res.map]
        · rw [(one_word 93 r).2 hh, if_neg (by simp [toRef]), if_neg hh]
          show (depotref21_word.f k T ((T.size - r.length : Nat) : Int) _).bind _ = _
          rw [hrl, word_f T (⟨#[44]⟩ : ByteArray) hT (by decide) k q hq2 (by show 1 < k; omega), Option.bind_some, e44, ← hr]
          cases hw2 : wordL [44] r with
          | bad l2 =>
            rw [if_neg (by simp [toRef])]
            rfl
          | ok u2 r2 =>
            rw [hr] at hw2
            obtain ⟨hr2, h21, h22⟩ := word_rest T q hq2 [44] u2 r2 hw2
            simp only [List.length_singleton] at hr2 h21 h22
            rw [if_pos (show (toRef T.size (Res.ok u2 r2)).2 = true from rfl)]
            show depotref21_steps.l0 k T ((T.size - r2.length : Nat) : Int) (acc ++ [toR ⟨x, xs⟩]) = _
            rw [h22, hr2]
            exact steps_law T hT k (q + 1) m (acc ++ [toR ⟨x, xs⟩]) h21 (by simp; omega) (by omega) (by omega)
theorem steps_f (T : ByteArray) (hT : T.size < 1099511627776) (k p : Nat) (hp : p ≤ T.size) (hk : 4 * (T.size - p) + 10 ≤ k) :
    depotref21_steps.f k T (p : Int) = some (toRefT T.size [] (listL stepB 93 true ((bs T).drop p))) := by
  have e93 : bs (⟨#[93]⟩ : ByteArray) = [93] := rfl
  have hlen : ((bs T).drop p).length = T.size - p := by rw [List.length_drop, ← size_bs]
  have hlaw := steps_law T hT k p (T.size - p + 1) [] hp (Nat.zero_le _) hk (by omega)
  have hsame : ((stepB ((bs T).drop p)).bind fun x r => (moreL stepB 93 (T.size - p + 1) r).map (x :: ·)) = ((stepB ((bs T).drop p)).bind fun x r => (moreL stepB 93 (r.length + 1) r).map (x :: ·)) := by
    cases hs : stepB ((bs T).drop p) with
    | bad l => rfl
    | ok x r =>
      have h1 := stepB_prog _ _ _ hs
      show (moreL stepB 93 (T.size - p + 1) r).map (x :: ·) = (moreL stepB 93 (r.length + 1) r).map (x :: ·)
      rw [moreL_fuel stepB stepB_prog 93 (T.size - p + 1) (r.length + 1) r (by omega) (by omega)]
  rw [hsame] at hlaw
  unfold depotref21_steps.f
  rw [word_f T _ hT (by decide) k p hp (by show 1 < k; omega), Option.bind_some, e93, listL]
  by_cases hh : ((bs T).drop p).head? = some 93
  · rw [(one_word 93 _).1 hh, if_pos (show (toRef T.size (Res.ok () (((bs T).drop p).drop 1))).2 = true from rfl), if_pos ⟨rfl, hh⟩]
    simp [toRefT, toRefL, toRef, Res.map]
  · rw [(one_word 93 _).2 hh, if_neg (by simp [toRef]), if_neg (fun h => hh h.2)]
    exact hlaw
/-- ',[' at once, as ',' and then '['. -/
theorem two_words (a b : UInt8) (s : List UInt8) : wordL [a, b] s = (wordL [a] s).bind fun _ r => wordL [b] r := by
  cases s with
  | nil => rfl
  | cons x s =>
    rw [wordL, wordL]
    split
    · rfl
    · rfl
end Go.Proofs.Ytdkkgeibifpgiaa.Rc
/- The recipe's reference: Parse computes what the program's does. -/
namespace Go.Proofs.Ytdkkgeibifpgiaa.Rc
open Go.RowKit Go.Proofs.YtdkkgeibifpgiaaW.PrintWords Go.Proofs.Ytdkkgeibifpgiaa.Bytes Go.Proofs.Ytdkkgeibifpgiaa.Q
set_option linter.unusedVariables false
set_option linter.unusedSimpArgs false

/-- Parse, as the reference goes. -/
theorem parseL_two (s : List UInt8) : parseL s = (wordL [82, 101, 99, 105, 112, 101, 40] s).bind fun _ r1 => (strB r1).bind fun nm r2 => (wordL [44, 91] r2).bind fun _ r3 => (listL strB 93 true r3).bind fun deps r4 => (wordL [44, 91] r4).bind fun _ r5 =>
    (listL stepB 93 true r5).bind fun steps r6 => (wordL [41] r6).bind fun _ r7 => if r7 = [] then .ok (nm, deps, steps) [] else .bad r7.length := by
  unfold parseL stepsL
  simp only [two_words, Res.bind_assoc]
def toRefP (n : Nat) (r : Res (ByteArray × List ByteArray × List S47)) : ByteArray × List ByteArray × List S66 × Int × Bool := match r with
  | .ok x _ => (x.1, x.2.1, x.2.2.map toR, 0, true)
  | .bad l => (⟨#[]⟩, [], [], ((n - l : Nat) : Int), false)
theorem parse_ref (T : ByteArray) (hT : T.size < 1099511627776) (k : Nat) (hk : 4 * T.size + 20 ≤ k) : depotref21_Parse.f k T = some (toRefP T.size (parseL (bs T))) := by
  have e1 : bs (⟨#[82, 101, 99, 105, 112, 101, 40]⟩ : ByteArray) = [82, 101, 99, 105, 112, 101, 40] := rfl
  have e2 : bs (⟨#[44, 91]⟩ : ByteArray) = [44, 91] := rfl
  have e3 : bs (⟨#[41]⟩ : ByteArray) = [41] := rfl
  have hw0 := word_f T (⟨#[82, 101, 99, 105, 112, 101, 40]⟩ : ByteArray) hT (by decide) k 0 (Nat.zero_le _) (by show 7 < k; omega)
  rw [List.drop_zero, e1] at hw0
  unfold depotref21_Parse.f
  rw [show (0 : Int) = ((0 : Nat) : Int) from rfl, hw0, Option.bind_some, parseL_two]
  cases h1 : wordL [82, 101, 99, 105, 112, 101, 40] (bs T) with
  | bad l => rw [if_neg (by simp [toRef])]; rfl
  | ok u1 r1 =>
    obtain ⟨hr1, a1, b1⟩ := word_rest T 0 (Nat.zero_le _) _ u1 r1 (by rw [List.drop_zero]; exact h1)
    simp only [Nat.zero_add, List.length_cons, List.length_nil] at hr1 a1 b1
    rw [if_pos (show (toRef T.size (Res.ok u1 r1)).2 = true from rfl)]
    show (depotref21_str.f k T ((T.size - r1.length : Nat) : Int)).bind _ = some (toRefP T.size ((strB r1).bind _))
    have eS : strB r1 = (strL r1).map (fun l => (⟨l.toArray⟩ : ByteArray)) := rfl
    rw [b1, str_f T hT k 7 a1 (by omega), Option.bind_some, eS, ← hr1]
    cases h2 : strL r1 with
    | bad l => rw [if_neg (by simp [toRefS])]; rfl
    | ok nm r2 =>
      obtain ⟨q2, c2, a2, hr2, b2⟩ := str_rest T 7 a1 nm r2 (by rw [← hr1]; exact h2)
      rw [if_pos (show (toRefS T.size [] (Res.ok nm r2)).2.2 = true from rfl)]
      show (depotref21_word.f k T ((T.size - r2.length : Nat) : Int) _).bind _ = some (toRefP T.size ((wordL [44, 91] r2).bind _))
      rw [b2, word_f T _ hT (by decide) k q2 a2 (by show 2 < k; omega), Option.bind_some, e2, ← hr2]
      cases h3 : wordL [44, 91] r2 with
      | bad l => rw [if_neg (by simp [toRef])]; rfl
      | ok u3 r3 =>
        obtain ⟨hr3, a3, b3⟩ := word_rest T q2 a2 [44, 91] u3 r3 (by rw [← hr2]; exact h3)
        simp only [List.length_cons, List.length_nil, Nat.zero_add] at hr3 a3 b3
        rw [if_pos (show (toRef T.size (Res.ok u3 r3)).2 = true from rfl)]
        show (depotref21_strs.f k T ((T.size - r3.length : Nat) : Int) _ true).bind _ = some (toRefP T.size ((listL strB 93 true r3).bind _))
        rw [b3, strs_f T hT 93 true k (q2 + (1 + 1)) a3 (by omega), Option.bind_some, ← hr3]
        cases h4 : listL strB 93 true r3 with
        | bad l => rw [if_neg (by simp [toRefL])]; rfl
        | ok deps r4 =>
          obtain ⟨q4, c4, a4, hr4, b4⟩ := place_rest T (q2 + (1 + 1)) a3 r4 (by rw [← hr3]; exact listL_rest strB strB_rest 93 true r3 _ r4 h4)
          rw [if_pos (show (toRefL T.size [] (Res.ok deps r4)).2.2 = true from rfl)]
          show (depotref21_word.f k T ((T.size - r4.length : Nat) : Int) _).bind _ = some (toRefP T.size ((wordL [44, 91] r4).bind _))
          rw [b4, word_f T _ hT (by decide) k q4 a4 (by show 2 < k; omega), Option.bind_some, e2, ← hr4]
          cases h5 : wordL [44, 91] r4 with
          | bad l => rw [if_neg (by simp [toRef])]; rfl
          | ok u5 r5 =>
            obtain ⟨hr5, a5, b5⟩ := word_rest T q4 a4 [44, 91] u5 r5 (by rw [← hr4]; exact h5)
            simp only [List.length_cons, List.length_nil, Nat.zero_add] at hr5 a5 b5
            rw [if_pos (show (toRef T.size (Res.ok u5 r5)).2 = true from rfl)]
            show (depotref21_steps.f k T ((T.size - r5.length : Nat) : Int)).bind _ = some (toRefP T.size ((listL stepB 93 true r5).bind _))
            rw [b5, steps_f T hT k (q4 + (1 + 1)) a5 (by omega), Option.bind_some, ← hr5]
            cases h6 : listL stepB 93 true r5 with
            | bad l => rw [if_neg (by simp [toRefT, toRefL, Res.map])]; rfl
            | ok steps r6 =>
              obtain ⟨q6, c6, a6, hr6, b6⟩ := place_rest T (q4 + (1 + 1)) a5 r6 (by rw [← hr5]; exact listL_rest stepB stepB_rest 93 true r5 _ r6 h6)
              rw [if_pos (show (toRefT T.size [] (Res.ok steps r6)).2.2 = true from rfl)]
              show (depotref21_word.f k T ((T.size - r6.length : Nat) : Int) _).bind _ = some (toRefP T.size ((wordL [41] r6).bind _))
              rw [b6, word_f T _ hT (by decide) k q6 a6 (by show 1 < k; omega), Option.bind_some, e3, ← hr6]
              cases h7 : wordL [41] r6 with
              | bad l => rw [if_neg (by simp [toRef])]; rfl
              | ok u7 r7 =>
                obtain ⟨hr7, a7, b7⟩ := word_rest T q6 a6 [41] u7 r7 (by rw [← hr6]; exact h7)
                simp only [List.length_singleton] at hr7 a7 b7
                rw [if_pos (show (toRef T.size (Res.ok u7 r7)).2 = true from rfl)]
                have hl7 : r7.length = T.size - (q6 + 1) := by rw [hr7, List.length_drop, ← size_bs]
                show (if ((T.size - r7.length : Nat) : Int) < (T.size : Int) then _ else _) = some (toRefP T.size (if r7 = [] then _ else _))
                by_cases hz : r7 = []
                · rw [if_pos hz, if_neg (by rw [hz]; simp)]
                  simp [toRefP, toRefS, toRefL, toRefT, Res.map, toRef]
                · have hp7 : 0 < r7.length := List.length_pos_iff.2 hz
                  rw [if_neg hz, if_pos (by omega)]
                  rfl
end Go.Proofs.Ytdkkgeibifpgiaa.Rc
/- depotlaw21.RecipeBack, walked: every recipe is read again from its text; unlike ones have unlike texts. -/
namespace Go.Proofs.Ytdkkgeibifpgiaa.Rc
open Go.RowKit Go.Proofs.YtdkkgeibifpgiaaW.PrintWords Go.Proofs.YtdkkgeibifpgiaaW.PrintLast Go.Proofs.YtdkkgeibifpgiaaW.PrintMore Go.Proofs.Ytdkkgeibifpgiaa.Bytes Go.Proofs.Ytdkkgeibifpgiaa.Q
set_option linter.unusedVariables false
set_option linter.unusedSimpArgs false
attribute [local go_sem ↓] Go.wp_at_zero Go.wp_at_succ

theorem printL_bounds (n : ByteArray) (d : List ByteArray) (xs : List S47) (h : (printL (n, d, xs)).length ≤ 1099511627776) : d.length ≤ 1099511627776 ∧ xs.length ≤ 1099511627776 ∧ ∀ x ∈ xs, x.f1.length ≤ 1099511627776 := by
  have hlen : (printL (n, d, xs)).length = 7 + ((quoteB n).length + (1 + ((1 + ((commaL (d.map quoteB)).length + 1)) + (1 + ((1 + ((commaL (xs.map stepP)).length + 1)) + 1))))) := by simp [printL]; omega
  have h1 := comma_count (d.map quoteB)
  have h2 := comma_count (xs.map stepP)
  rw [List.length_map] at h1 h2
  refine ⟨by omega, by omega, fun x hx => ?_⟩
  have h3 := comma_mem (xs.map stepP) (stepP x) (List.mem_map.2 ⟨x, hx, rfl⟩)
  have h4 := comma_count ((x.f0 :: x.f1).map quoteB)
  rw [List.length_map, List.length_cons] at h4
  have hs : (stepP x).length = (commaL ((x.f0 :: x.f1).map quoteB)).length + 2 := by simp [stepP]
  omega
theorem printL_inj {x y : ByteArray × List ByteArray × List S47} (h : printL x = printL y) : x = y := by
  have h1 := parse_print x
  rw [h, parse_print y] at h1
  injection h1 with h1 _
  exact h1.symm
/-- Two recipes are the same just if their texts are. -/
theorem texts_same (x y : ByteArray × List ByteArray × List S47) : ((mkS (printL x)).toList == (mkS (printL y)).toList) = decide (x.1 = y.1 ∧ x.2.1 = y.2.1 ∧ x.2.2 = y.2.2) := by
  rw [Bool.eq_iff_iff, beq_iff_eq, toList_bs, toList_bs, bs_mkS, bs_mkS, decide_eq_true_iff]
  constructor
  · intro h
    have := printL_inj h
    rw [this]
    exact ⟨rfl, rfl, rfl⟩
  · intro h
    obtain ⟨a, b, c⟩ := x
    obtain ⟨a', b', c'⟩ := y
    obtain ⟨rfl, rfl, rfl⟩ := h
    rfl
set_option maxRecDepth 100000 in
set_option maxHeartbeats 32000000 in
theorem back_walk (n1 : ByteArray) (A1 : Option Addr) (c1 : Nat) (d1 : List ByteArray) (A2 : Option Addr) (c2 : Nat) (xs : List S47) (n2 : ByteArray) (B1 : Option Addr) (e1 : Nat) (d2 : List ByteArray) (B2 : Option Addr) (e2 : Nat) (ys : List S47) (w : World)
    (h1 : Kd.C Kd.string w A1 d1.length d1) (hc1 : d1.length ≤ c1) (h2 : Kd.C k47 w A2 xs.length xs) (hc2 : xs.length ≤ c2) (h3 : Kd.C Kd.string w B1 d2.length d2) (hc3 : d2.length ≤ e1) (h4 : Kd.C k47 w B2 ys.length ys) (hc4 : ys.length ≤ e2) (hM1 : (printL (n1, d1, xs)).length ≤ 1099511627776) (hM2 : (printL (n2, d2, ys)).length ≤ 1099511627776) :
    Calls Try.prog 5 #[.agg #[.string n1, .slice A1 d1.length c1, .slice A2 xs.length c2], .agg #[.string n2, .slice B1 d2.length e1, .slice B2 ys.length e2]] w fun e w' => e = .returned (.bool true) ∧ Below w.heap.size w w' := by
  have hu26 := Try.underlying26
  have hu33 := Try.underlying33
  obtain ⟨hd1, hx1, ha1⟩ := printL_bounds _ _ _ hM1
  obtain ⟨hd2, hx2, ha2⟩ := printL_bounds _ _ _ hM2
  have hts := texts_same (n1, d1, xs) (n2, d2, ys)
  have hP1 := parse_print (n1, d1, xs)
  obtain ⟨T1, hT1⟩ : ∃ T, mkS (printL (n1, d1, xs)) = T := ⟨_, rfl⟩
  obtain ⟨T2, hT2⟩ : ∃ T, mkS (printL (n2, d2, ys)) = T := ⟨_, rfl⟩
  have hsT : T1.size ≤ 1099511627776 := by rw [← hT1, size_mkS]; exact hM1
  rw [show printL (n1, d1, xs) = bs T1 from by rw [← hT1]; rfl] at hP1
  rw [hT1, hT2] at hts
  obtain ⟨b, hb⟩ : ∃ b, decide (n1 = n2 ∧ d1 = d2 ∧ xs = ys) = b := ⟨_, rfl⟩
  have hts2 : (T1.toList == T2.toList) = b := by rw [hts]; exact hb
  obtain ⟨q1, hq1⟩ : ∃ q, d1.length = q := ⟨_, rfl⟩
  obtain ⟨q2, hq2⟩ : ∃ q, xs.length = q := ⟨_, rfl⟩
  obtain ⟨p1, hp1⟩ : ∃ q, d2.length = q := ⟨_, rfl⟩
  obtain ⟨p2, hp2⟩ : ∃ q, ys.length = q := ⟨_, rfl⟩
  have hm : ∀ l : List S47, (∀ x ∈ l, x.f1.length ≤ 1099511627776) → ∀ x ∈ l.map toR, x.f1.length ≤ 1099511627776 := fun l h x hx => by
    obtain ⟨y, hy, rfl⟩ := List.mem_map.1 hx
    exact h y hy
  -- the contracts, over any world behind the first
  have HPR1 := Aside0.mk (show ∀ W, Below w.heap.size w W → Calls Try.prog 14 #[.agg #[.string n1, .slice A1 q1 c1, .slice A2 q2 c2]] W fun e w' => e = .returned (.string T1) ∧ Below W.heap.size W w' from fun W hb => by
    rw [← hq1, ← hq2, ← hT1]
    exact print_calls n1 A1 c1 d1 A2 c2 xs W (Kd.C_below h1 hb) hc1 (Kd.C_below h2 hb) hc2 hM1)
  have HPR2 := Aside0.mk (show ∀ W, Below w.heap.size w W → Calls Try.prog 14 #[.agg #[.string n2, .slice B1 p1 e1, .slice B2 p2 e2]] W fun e w' => e = .returned (.string T2) ∧ Below W.heap.size W w' from fun W hb => by
    rw [← hp1, ← hp2, ← hT2]
    exact print_calls n2 B1 e1 d2 B2 e2 ys W (Kd.C_below h3 hb) hc3 (Kd.C_below h4 hb) hc4 hM2)
  have HPA := Aside0.mk (show ∀ W, Calls Try.prog 9 #[.string T1] W fun e w' => ∃ A3 c3 A4 c4, e = .returned (.tuple #[.agg #[.string n1, .slice A3 q1 c3, .slice A4 q2 c4], .nilIface]) ∧ d1.length ≤ c3 ∧ Kd.C Kd.string w' A3 d1.length d1 ∧ xs.length ≤ c4 ∧ Kd.C k47 w' A4 xs.length xs ∧ Below W.heap.size W w' from fun W => by
    have := parse_ok T1 hsT W _ _ _ _ hP1
    rw [hq1, hq2] at this ⊢
    exact this)
  have HPL1 := Aside0.mk (show ∀ W, Below w.heap.size w W → Calls Try.prog 12 #[.agg #[.string n1, .slice A1 q1 c1, .slice A2 q2 c2]] W fun e w' => ∃ A3 c3, e = .returned (.agg #[.string n1, .slice A1 q1 c1, .slice A3 q2 c3]) ∧ (xs.map toR).length ≤ c3 ∧ Kd.C k66 w' A3 (xs.map toR).length (xs.map toR) ∧ Below W.heap.size W w' from fun W hb => by
    have := plain_calls n1 A1 c1 d1 A2 c2 xs W (Kd.C_below h2 hb) hx1
    rw [List.length_map, hq1, hq2] at this
    rw [List.length_map, hq2]
    exact this)
  have HPL2 := Aside0.mk (show ∀ W, Below w.heap.size w W → Calls Try.prog 12 #[.agg #[.string n2, .slice B1 p1 e1, .slice B2 p2 e2]] W fun e w' => ∃ A3 c3, e = .returned (.agg #[.string n2, .slice B1 p1 e1, .slice A3 p2 c3]) ∧ (ys.map toR).length ≤ c3 ∧ Kd.C k66 w' A3 (ys.map toR).length (ys.map toR) ∧ Below W.heap.size W w' from fun W hb => by
    have := plain_calls n2 B1 e1 d2 B2 e2 ys W (Kd.C_below h4 hb) hx2
    rw [List.length_map, hp1, hp2] at this
    rw [List.length_map, hp2]
    exact this)
  have HPL3 := Aside0.mk (show ∀ W A3 c3 A4 c4, Kd.C k47 W A4 xs.length xs → Calls Try.prog 12 #[.agg #[.string n1, .slice A3 q1 c3, .slice A4 q2 c4]] W fun e w' => ∃ A5 c5, e = .returned (.agg #[.string n1, .slice A3 q1 c3, .slice A5 q2 c5]) ∧ (xs.map toR).length ≤ c5 ∧ Kd.C k66 w' A5 (xs.map toR).length (xs.map toR) ∧ Below W.heap.size W w' from fun W A3 c3 A4 c4 hk => by
    have := plain_calls n1 A3 c3 d1 A4 c4 xs W hk hx1
    rw [List.length_map, hq1, hq2] at this
    rw [List.length_map, hq2]
    exact this)
  have HAL := Aside0.mk (show ∀ W A3 c3 A4 c4, Below w.heap.size w W → Kd.C k66 W A3 (xs.map toR).length (xs.map toR) → (xs.map toR).length ≤ c3 → Kd.C k66 W A4 (ys.map toR).length (ys.map toR) → (ys.map toR).length ≤ c4 → Calls Try.prog 11 #[.agg #[.string n1, .slice A1 q1 c1, .slice A3 q2 c3], .agg #[.string n2, .slice B1 p1 e1, .slice A4 p2 c4]] W fun e w' => e = .returned (.bool b) ∧ Below W.heap.size W w' from fun W A3 c3 A4 c4 hbw g1 g2 g3 g4 => by
    have := alike_calls n1 A1 c1 d1 A3 c3 (xs.map toR) n2 B1 e1 d2 A4 c4 (ys.map toR) W (Kd.C_below h1 hbw) hc1 g1 g2 (Kd.C_below h3 hbw) hc3 g3 g4 hd1 (by rw [List.length_map]; exact hx1) (hm xs ha1)
    rw [List.length_map, List.length_map, hq1, hq2, hp1, hp2, show decide (n1 = n2 ∧ d1 = d2 ∧ xs.map toR = ys.map toR) = b from by rw [← hb]; exact decide_eq_decide.2 (by rw [map_toR])] at this
    exact this)
  have HAL2 := Aside0.mk (show ∀ W A3 c3 A5 c5 A4 c4, Below w.heap.size w W → Kd.C Kd.string W A3 d1.length d1 → d1.length ≤ c3 → Kd.C k66 W A5 (xs.map toR).length (xs.map toR) → (xs.map toR).length ≤ c5 → Kd.C k66 W A4 (xs.map toR).length (xs.map toR) → (xs.map toR).length ≤ c4 → Calls Try.prog 11 #[.agg #[.string n1, .slice A3 q1 c3, .slice A5 q2 c5], .agg #[.string n1, .slice A1 q1 c1, .slice A4 q2 c4]] W fun e w' => e = .returned (.bool true) ∧ Below W.heap.size W w' from fun W A3 c3 A5 c5 A4 c4 hb g0 g00 g1 g2 g3 g4 => by
    have := alike_calls n1 A3 c3 d1 A5 c5 (xs.map toR) n1 A1 c1 d1 A4 c4 (xs.map toR) W g0 g00 g1 g2 (Kd.C_below h1 hb) hc1 g3 g4 hd1 (by rw [List.length_map]; exact hx1) (hm xs ha1)
    rw [List.length_map, hq1, hq2, show decide (n1 = n1 ∧ d1 = d1 ∧ xs.map toR = xs.map toR) = true from by simp] at this
    exact this)
  have HSB := Aside0.mk (show ∀ W A3 c3 A4 c4, Below w.heap.size w W → Kd.C Kd.string W A3 d1.length d1 → d1.length ≤ c3 → Kd.C k47 W A4 xs.length xs → xs.length ≤ c4 → Calls Try.prog 15 #[.agg #[.string n1, .slice A3 q1 c3, .slice A4 q2 c4], .agg #[.string n1, .slice A1 q1 c1, .slice A2 q2 c2]] W fun e w' => e = .returned (.bool true) ∧ Below W.heap.size W w' from fun W A3 c3 A4 c4 hb g1 g2 g3 g4 => by
    have := same_calls n1 A3 c3 d1 A4 c4 xs n1 A1 c1 d1 A2 c2 xs W g1 g2 g3 g4 (Kd.C_below h1 hb) hc1 (Kd.C_below h2 hb) hc2 hd1 hx1 ha1
    rw [hq1, hq2, show decide (n1 = n1 ∧ d1 = d1 ∧ xs = xs) = true from by simp] at this
    exact this)
  have HSR := Aside0.mk (show ∀ W, Below w.heap.size w W → Calls Try.prog 15 #[.agg #[.string n1, .slice A1 q1 c1, .slice A2 q2 c2], .agg #[.string n2, .slice B1 p1 e1, .slice B2 p2 e2]] W fun e w' => e = .returned (.bool b) ∧ Below W.heap.size W w' from fun W hb' => by
    have := same_calls n1 A1 c1 d1 A2 c2 xs n2 B1 e1 d2 B2 e2 ys W (Kd.C_below h1 hb') hc1 (Kd.C_below h2 hb') hc2 (Kd.C_below h3 hb') hc3 (Kd.C_below h4 hb') hc4 hd1 hx1 ha1
    rw [hq1, hq2, hp1, hp2, hb] at this
    exact this)
  rw [hq1, hq2, hp1, hp2]
  clear h1 h2 h3 h4 hc1 hc2 hc3 hc4 hM1 hM2 hd1 hd2 hx1 hx2 ha1 ha2 hts hP1 hsT hT1 hT2 hb hq1 hq2 hp1 hp2 hm
  obtain ⟨w2, hw2⟩ : ∃ w2, (w.alloc (.cells #[.string n1, .slice A1 q1 c1, .slice A2 q2 c2] 26)).alloc (.cells #[.string n2, .slice B1 p1 e1, .slice B2 p2 e2] 26) = w2 := ⟨_, rfl⟩
  have hb2 : Below w.heap.size w w2 := by rw [← hw2]; exact ((Below.refl _ _).alloc (Nat.le_refl _) _).alloc (by simp) _
  have g1 : w2.heap[w.heap.size]? = some (.cells #[.string n1, .slice A1 q1 c1, .slice A2 q2 c2] 26 (0, 0)) := by rw [← hw2]; exact ((below_alloc (Below.refl _ _) _).block _ (by simp)).trans (heap_alloc_new _ _)
  have g2 : w2.heap[w.heap.size + 1]? = some (.cells #[.string n2, .slice B1 p1 e1, .slice B2 p2 e2] 26 (0, 0)) := by rw [← hw2]; exact heap_alloc2_new _ _ _
  have HB2 := Aside0.mk hb2
  have HG1 := Aside0.mk g1
  have HG2 := Aside0.mk g2
  have HW := Aside0.mk hw2
  clear hb2 g1 g2 hw2
  go_enter Try.func5, Try.ntmps5
  go_wp2_with (first | (go_at_call 8; rw [HW.out]; refine (awake_calls w2).mono ?_; rintro e w3 ⟨rfl, hb3⟩; have HB3 := Aside0.mk (HB2.out.trans (hb3.mono HB2.out.size)); have z1 := (hb3.block _ (Array.getElem?_eq_some_iff.1 HG1.out).1).trans HG1.out; have z2 := (hb3.block _ (Array.getElem?_eq_some_iff.1 HG2.out).1).trans HG2.out; have HZ1 := Aside0.mk z1; have HZ2 := Aside0.mk z2; have y0 : w3.cell? ⟨w.heap.size, 0, none⟩ = some (.string n1) := (by simp [World.cell?, z1]); have y1 : w3.cell? ⟨w.heap.size, 1, none⟩ = some (.slice A1 q1 c1) := (by simp [World.cell?, z1]); have y2 : w3.cell? ⟨w.heap.size, 2, none⟩ = some (.slice A2 q2 c2) := (by simp [World.cell?, z1]); clear hb3 z1 z2) | (go_at_call 14; refine (HPR1.out _ HB3.out).mono ?_; rintro e w4 ⟨rfl, hb4⟩; have HB4 := Aside0.mk hb4; clear hb4 y0 y1 y2) | (go_at_call 9; refine (HPA.out _).mono ?_; rintro e w5 ⟨A3, c3, A4, c4, rfl, hl5, hr5, hl6, hr6, hb5⟩; have HB5 := Aside0.mk (HB4.out.trans (hb5.mono HB4.out.size)); have HR5 := Aside0.mk hr5; have HR6 := Aside0.mk hr6; have HL5 := Aside0.mk hl5; have HL6 := Aside0.mk hl6; clear hb5 hr5 hr6 hl5 hl6))
  generalize hW6 : World.alloc w5 _ = w6
  have hb6 := below_alloc1 hW6
  have z6 := heap_alloc_new w5 (.cells #[.string n1, .slice A3 q1 c3, .slice A4 q2 c4] 26)
  rw [hW6] at z6
  have HB6 := Aside0.mk (HB3.out.trans ((HB5.out.trans (hb6.mono HB5.out.size)).mono HB3.out.size))
  have HR7 := Aside0.mk (Kd.C_below HR5.out hb6)
  have HR8 := Aside0.mk (Kd.C_below HR6.out hb6)
  have hb36 := HB5.out.trans (hb6.mono HB5.out.size)
  have z1 := (hb36.block _ (Array.getElem?_eq_some_iff.1 HZ1.out).1).trans HZ1.out
  have z2 := (hb36.block _ (Array.getElem?_eq_some_iff.1 HZ2.out).1).trans HZ2.out
  obtain ⟨g5, hg5⟩ : ∃ g, w5.heap.size = g := ⟨_, rfl⟩
  rw [hg5] at z6
  have KEEP := Aside0.mk (show ∀ W, Below w6.heap.size w6 W → (W.cell? ⟨w.heap.size, 0, none⟩ = some (.string n1) ∧ W.cell? ⟨w.heap.size, 1, none⟩ = some (.slice A1 q1 c1) ∧ W.cell? ⟨w.heap.size, 2, none⟩ = some (.slice A2 q2 c2)) ∧ (W.cell? ⟨w.heap.size + 1, 0, none⟩ = some (.string n2) ∧ W.cell? ⟨w.heap.size + 1, 1, none⟩ = some (.slice B1 p1 e1) ∧ W.cell? ⟨w.heap.size + 1, 2, none⟩ = some (.slice B2 p2 e2)) ∧ (W.cell? ⟨g5, 0, none⟩ = some (.string n1) ∧ W.cell? ⟨g5, 1, none⟩ = some (.slice A3 q1 c3) ∧ W.cell? ⟨g5, 2, none⟩ = some (.slice A4 q2 c4)) from fun W hb => by
    have x1 := (hb.block _ (Array.getElem?_eq_some_iff.1 z1).1).trans z1
    have x2 := (hb.block _ (Array.getElem?_eq_some_iff.1 z2).1).trans z2
    have x6 := (hb.block _ (Array.getElem?_eq_some_iff.1 z6).1).trans z6
    exact ⟨⟨by simp [World.cell?, x1], by simp [World.cell?, x1], by simp [World.cell?, x1]⟩, ⟨by simp [World.cell?, x2], by simp [World.cell?, x2], by simp [World.cell?, x2]⟩, ⟨by simp [World.cell?, x6], by simp [World.cell?, x6], by simp [World.cell?, x6]⟩⟩)
  have HG5 := Aside0.mk hg5
  rw [hg5]
  clear hW6 hb6 z6 hb36 z1 z2 HZ1 HZ2 HG1 HG2 HB3 HB4 HB5 HR5 HR6 HW hg5
  have D6 := Aside0.mk (show Below w6.heap.size w6 w6.drew from below_drew (Below.refl _ _))
  have LB := Aside0.mk (show ∀ W, Below w6.heap.size w6 W → Below w.heap.size w W from fun W h => HB6.out.trans (h.mono HB6.out.size))
  go_region_held3 (fun w' => (w'.cell? ⟨w.heap.size, 0, none⟩ = some (.string n1) ∧ w'.cell? ⟨w.heap.size, 1, none⟩ = some (.slice A1 q1 c1) ∧ w'.cell? ⟨w.heap.size, 2, none⟩ = some (.slice A2 q2 c2)) ∧ (w'.cell? ⟨w.heap.size + 1, 0, none⟩ = some (.string n2) ∧ w'.cell? ⟨w.heap.size + 1, 1, none⟩ = some (.slice B1 p1 e1) ∧ w'.cell? ⟨w.heap.size + 1, 2, none⟩ = some (.slice B2 p2 e2)) ∧ (w'.cell? ⟨g5, 0, none⟩ = some (.string n1) ∧ w'.cell? ⟨g5, 1, none⟩ = some (.slice A3 q1 c3) ∧ w'.cell? ⟨g5, 2, none⟩ = some (.slice A4 q2 c4))) (first | exact KEEP.out _ HB10.out | exact KEEP.out _ HB9.out | exact KEEP.out _ HB8.out | exact KEEP.out _ D6.out)
    (first
      | (go_at_call 12; ((with_reducible refine (HPL1.out w6.drew (LB.out _ D6.out)).mono ?_)); rintro e w8 ⟨A8, c8, rfl, hl8, hk8, hb8⟩; have HB8 := Aside0.mk (D6.out.trans (hb8.mono D6.out.size)); have HL8 := Aside0.mk hl8; have HK8 := Aside0.mk hk8; clear hl8 hk8 hb8)
      | (go_at_call 12; ((with_reducible refine (HPL2.out w8 (LB.out _ HB8.out)).mono ?_)); rintro e w9 ⟨A9, c9, rfl, hl9, hk9, hb9⟩; have HB9 := Aside0.mk (HB8.out.trans (hb9.mono HB8.out.size)); have HL9 := Aside0.mk hl9; have HK9 := Aside0.mk hk9; have HK8b := Aside0.mk (Kd.C_below HK8.out hb9); clear hl9 hk9 hb9)
      | (go_at_call 11; ((with_reducible refine (HAL.out w9 _ _ _ _ (LB.out _ HB9.out) HK8b.out HL8.out HK9.out HL9.out).mono ?_)); rintro e w10 ⟨rfl, hb10⟩; have HB10 := Aside0.mk (HB9.out.trans (hb10.mono HB9.out.size)); clear hb10))
  go_wp2
  have D10 := Aside0.mk (show Below w6.heap.size w6 w10.drew from below_drew HB10.out)
  have HR7b := Aside0.mk (Kd.C_below HR7.out D10.out)
  have HR8b := Aside0.mk (Kd.C_below HR8.out D10.out)
  clear HK8 HK9 HK8b HL8 HL9
  go_region_held3 (fun w' => (w'.cell? ⟨w.heap.size, 0, none⟩ = some (.string n1) ∧ w'.cell? ⟨w.heap.size, 1, none⟩ = some (.slice A1 q1 c1) ∧ w'.cell? ⟨w.heap.size, 2, none⟩ = some (.slice A2 q2 c2)) ∧ (w'.cell? ⟨w.heap.size + 1, 0, none⟩ = some (.string n2) ∧ w'.cell? ⟨w.heap.size + 1, 1, none⟩ = some (.slice B1 p1 e1) ∧ w'.cell? ⟨w.heap.size + 1, 2, none⟩ = some (.slice B2 p2 e2)) ∧ (w'.cell? ⟨g5, 0, none⟩ = some (.string n1) ∧ w'.cell? ⟨g5, 1, none⟩ = some (.slice A3 q1 c3) ∧ w'.cell? ⟨g5, 2, none⟩ = some (.slice A4 q2 c4))) (first | exact KEEP.out _ HB17.out | exact KEEP.out _ HB16.out | exact KEEP.out _ HB15.out | exact KEEP.out _ HB14.out | exact KEEP.out _ HB13.out | exact KEEP.out _ HB12.out | exact KEEP.out _ HB11.out | exact KEEP.out _ D10.out)
    (first
      | (go_at_call 15; ((with_reducible refine (HSB.out w10.drew _ _ _ _ (LB.out _ D10.out) HR7b.out HL5.out HR8b.out HL6.out).mono ?_)); rintro e w11 ⟨rfl, hb11⟩; have HB11 := Aside0.mk (D10.out.trans (hb11.mono D10.out.size)); have HR8c := Aside0.mk (Kd.C_below HR8b.out hb11); clear hb11)
      | (go_at_call 12; ((with_reducible refine (HPL3.out w11 _ _ _ _ HR8c.out).mono ?_)); rintro e w12 ⟨A12, c12, rfl, hl12, hk12, hb12⟩; have HB12 := Aside0.mk (HB11.out.trans (hb12.mono HB11.out.size)); have HL12 := Aside0.mk hl12; have HK12 := Aside0.mk hk12; clear hl12 hk12 hb12)
      | (go_at_call 12; ((with_reducible refine (HPL1.out w12 (LB.out _ HB12.out)).mono ?_)); rintro e w13 ⟨A13, c13, rfl, hl13, hk13, hb13⟩; have HB13 := Aside0.mk (HB12.out.trans (hb13.mono HB12.out.size)); have HL13 := Aside0.mk hl13; have HK13 := Aside0.mk hk13; have HK12b := Aside0.mk (Kd.C_below HK12.out hb13); have HR7c := Aside0.mk (Kd.C_below HR7.out HB13.out); clear hl13 hk13 hb13)
      | (go_at_call 11; ((with_reducible refine (HAL2.out w13 _ _ _ _ _ _ (LB.out _ HB13.out) HR7c.out HL5.out HK12b.out HL12.out HK13.out HL13.out).mono ?_)); rintro e w14 ⟨rfl, hb14⟩; have HB14 := Aside0.mk (HB13.out.trans (hb14.mono HB13.out.size)); clear hb14)
      | (go_at_call 15; ((with_reducible refine (HSR.out w14 (LB.out _ HB14.out)).mono ?_)); rintro e w15 ⟨rfl, hb15⟩; have HB15 := Aside0.mk (HB14.out.trans (hb15.mono HB14.out.size)); clear hb15)
      | (go_at_call 14; ((with_reducible refine (HPR1.out w15 (LB.out _ HB15.out)).mono ?_)); rintro e w16 ⟨rfl, hb16⟩; have HB16 := Aside0.mk (HB15.out.trans (hb16.mono HB15.out.size)); clear hb16)
      | (go_at_call 14; ((with_reducible refine (HPR2.out w16 (LB.out _ HB16.out)).mono ?_)); rintro e w17 ⟨rfl, hb17⟩; have HB17 := Aside0.mk (HB16.out.trans (hb17.mono HB16.out.size)); clear hb17))
  go_wp2
  go_ret
  exact ⟨by simp, LB.out _ HB17.out⟩
end Go.Proofs.Ytdkkgeibifpgiaa.Rc
namespace Go.Proofs.Ytdkkgeibifpgiaa.Q
open Go.RowKit Go.Proofs.YtdkkgeibifpgiaaW.PrintWords Go.Proofs.Ytdkkgeibifpgiaa.Bytes Go.Proofs.Ytdkkgeibifpgiaa.Rc
def depotlaw21_RecipeBack.f (a0_0 : ByteArray) (l0_1 : List ByteArray) (l0_2 : List (S47)) (a1_0 : ByteArray) (l1_1 : List ByteArray) (l1_2 : List (S47)) : Option Bool := if (printL (a0_0, l0_1, l0_2)).length ≤ 1099511627776 ∧ (printL (a1_0, l1_1, l1_2)).length ≤ 1099511627776 then some true else none
theorem depotlaw21_RecipeBack.calls (a0_0 : ByteArray) (A0_1 : Option Addr) (c0_1 : Nat) (l0_1 : List ByteArray) (A0_2 : Option Addr) (c0_2 : Nat) (l0_2 : List (S47)) (a1_0 : ByteArray) (A1_1 : Option Addr) (c1_1 : Nat) (l1_1 : List ByteArray) (A1_2 : Option Addr) (c1_2 : Nat) (l1_2 : List (S47)) (r : Bool) (w : World) (hr0_1 : Kd.C Kd.string w A0_1 l0_1.length l0_1) (hc0_1 : l0_1.length ≤ c0_1) (hr0_2 : Kd.C k47 w A0_2 l0_2.length l0_2) (hc0_2 : l0_2.length ≤ c0_2) (hr1_1 : Kd.C Kd.string w A1_1 l1_1.length l1_1) (hc1_1 : l1_1.length ≤ c1_1) (hr1_2 : Kd.C k47 w A1_2 l1_2.length l1_2) (hc1_2 : l1_2.length ≤ c1_2) (h : depotlaw21_RecipeBack.f a0_0 l0_1 l0_2 a1_0 l1_1 l1_2 = some r) :
    Calls Try.prog 5 #[.agg #[.string a0_0, .slice A0_1 l0_1.length c0_1, .slice A0_2 l0_2.length c0_2], .agg #[.string a1_0, .slice A1_1 l1_1.length c1_1, .slice A1_2 l1_2.length c1_2]] w fun e w' => e = .returned (.bool r) ∧ Below w.heap.size w w' := by
  unfold depotlaw21_RecipeBack.f at h
  split at h
  case isFalse => cases h
  case isTrue hc =>
    obtain rfl := Option.some.inj h
    exact back_walk a0_0 A0_1 c0_1 l0_1 A0_2 c0_2 l0_2 a1_0 A1_1 c1_1 l1_1 A1_2 c1_2 l1_2 w hr0_1 hc0_1 hr0_2 hc0_2 hr1_1 hc1_1 hr1_2 hc1_2 hc.1 hc.2
end Go.Proofs.Ytdkkgeibifpgiaa.Q
/- depotlaw21.RecipeParses, walked: Parse answers as the document's. -/
namespace Go.Proofs.Ytdkkgeibifpgiaa.Rc
open Go.RowKit Go.Proofs.YtdkkgeibifpgiaaW.PrintWords Go.Proofs.YtdkkgeibifpgiaaW.PrintLast Go.Proofs.YtdkkgeibifpgiaaW.PrintMore Go.Proofs.Ytdkkgeibifpgiaa.Bytes Go.Proofs.Ytdkkgeibifpgiaa.Q
set_option linter.unusedVariables false
set_option linter.unusedSimpArgs false
attribute [local go_sem ↓] Go.wp_at_zero Go.wp_at_succ

/-- The reference's Parse, its lists as they can be read. -/
theorem ref_calls (T : ByteArray) (hT : T.size ≤ 1048576) (r1 : ByteArray) (r2 : List ByteArray) (r3 : List S66) (r4 : Int) (r5 : Bool) (h : toRefP T.size (parseL (bs T)) = (r1, r2, r3, r4, r5)) (w : World) :
    Calls Try.prog 10 #[.string T] w fun e w' => ∃ A3 c3 A4 c4, e = .returned (.tuple #[.agg #[.string r1, .slice A3 r2.length c3, .slice A4 r3.length c4], .int .i64 r4, .bool r5]) ∧ r2.length ≤ c3 ∧ Kd.C Kd.string w' A3 r2.length r2 ∧ r3.length ≤ c4 ∧ Kd.C k66 w' A4 r3.length r3 ∧ Below w.heap.size w w' := by
  have hf := parse_ref T (by omega) 10000000 (by omega)
  rw [h] at hf
  refine (depotref21_Parse.calls 10000000 T r1 r2 r3 r4 r5 w hf).mono ?_
  rintro e w' ⟨v1, v2, he, g1, g2, hb⟩
  obtain ⟨A3, c3, e3, l3, k3⟩ := Kd.R_reads g1
  obtain ⟨A4, c4, e4, l4, k4⟩ := Kd.N_reads g2
  subst e3 e4
  exact ⟨A3, c3, A4, c4, he, l3, k3, l4, k4, hb⟩
set_option maxRecDepth 100000 in
set_option maxHeartbeats 32000000 in
theorem parses_walk (T : ByteArray) (hT0 : T.size ≤ 1048576) (w : World) : Calls Try.prog 3 #[.string T] w fun e w' => e = .returned (.bool true) ∧ Below w.heap.size w w' := by
  have hu26 := Try.underlying26
  have hu33 := Try.underlying33
  have hu40 := Try.underlying40
  have hT : T.size ≤ 1099511627776 := by omega
  cases hp : parseL (bs T) with
  | ok x r =>
    obtain ⟨nm, deps, steps⟩ := x
    obtain ⟨hpr, rfl⟩ := print_parse _ _ _ hp
    have hlen : (printL (nm, deps, steps)).length ≤ 1099511627776 := by rw [hpr, ← size_bs]; exact hT
    obtain ⟨hd1, hx1, ha1⟩ := printL_bounds _ _ _ hlen
    obtain ⟨q1, hq1⟩ : ∃ q, deps.length = q := ⟨_, rfl⟩
    obtain ⟨q2, hq2⟩ : ∃ q, steps.length = q := ⟨_, rfl⟩
    have hm : ∀ x ∈ steps.map toR, x.f1.length ≤ 1099511627776 := fun x hx => by
      obtain ⟨y, hy, rfl⟩ := List.mem_map.1 hx
      exact ha1 y hy
    have HP := Aside0.mk (show ∀ W, Calls Try.prog 9 #[.string T] W fun e w' => ∃ A3 c3 A4 c4, e = .returned (.tuple #[.agg #[.string nm, .slice A3 q1 c3, .slice A4 q2 c4], .nilIface]) ∧ deps.length ≤ c3 ∧ Kd.C Kd.string w' A3 deps.length deps ∧ steps.length ≤ c4 ∧ Kd.C k47 w' A4 steps.length steps ∧ Below W.heap.size W w' from fun W => by
      have := parse_ok T hT W _ _ _ _ hp
      rw [hq1, hq2] at this ⊢
      exact this)
    have HRF := Aside0.mk (show ∀ W, Calls Try.prog 10 #[.string T] W fun e w' => ∃ A3 c3 A4 c4, e = .returned (.tuple #[.agg #[.string nm, .slice A3 q1 c3, .slice A4 q2 c4], .int .i64 0, .bool true]) ∧ deps.length ≤ c3 ∧ Kd.C Kd.string w' A3 deps.length deps ∧ (steps.map toR).length ≤ c4 ∧ Kd.C k66 w' A4 (steps.map toR).length (steps.map toR) ∧ Below W.heap.size W w' from fun W => by
      have := ref_calls T hT0 nm deps (steps.map toR) 0 true (by rw [hp]; rfl) W
      rw [List.length_map, hq1, hq2] at this
      rw [List.length_map, hq1, hq2]
      exact this)
    have HPL := Aside0.mk (show ∀ W A3 c3 A4 c4, Kd.C k47 W A4 steps.length steps → Calls Try.prog 12 #[.agg #[.string nm, .slice A3 q1 c3, .slice A4 q2 c4]] W fun e w' => ∃ A5 c5, e = .returned (.agg #[.string nm, .slice A3 q1 c3, .slice A5 q2 c5]) ∧ (steps.map toR).length ≤ c5 ∧ Kd.C k66 w' A5 (steps.map toR).length (steps.map toR) ∧ Below W.heap.size W w' from fun W A3 c3 A4 c4 hk => by
      have := plain_calls nm A3 c3 deps A4 c4 steps W hk hx1
      rw [List.length_map, hq1, hq2] at this
      rw [List.length_map, hq2]
      exact this)
    have HAL := Aside0.mk (show ∀ W A1 c1 A2 c2 A3 c3 A4 c4, Kd.C Kd.string W A1 deps.length deps → deps.length ≤ c1 → Kd.C k66 W A2 (steps.map toR).length (steps.map toR) → (steps.map toR).length ≤ c2 → Kd.C Kd.string W A3 deps.length deps → deps.length ≤ c3 → Kd.C k66 W A4 (steps.map toR).length (steps.map toR) → (steps.map toR).length ≤ c4 → Calls Try.prog 11 #[.agg #[.string nm, .slice A1 q1 c1, .slice A2 q2 c2], .agg #[.string nm, .slice A3 q1 c3, .slice A4 q2 c4]] W fun e w' => e = .returned (.bool true) ∧ Below W.heap.size W w' from fun W A1 c1 A2 c2 A3 c3 A4 c4 g1 g2 g3 g4 g5 g6 g7 g8 => by
      have := alike_calls nm A1 c1 deps A2 c2 (steps.map toR) nm A3 c3 deps A4 c4 (steps.map toR) W g1 g2 g3 g4 g5 g6 g7 g8 hd1 (by rw [List.length_map]; exact hx1) hm
      rw [List.length_map, hq1, hq2, show decide (nm = nm ∧ deps = deps ∧ steps.map toR = steps.map toR) = true from by simp] at this
      exact this)
    clear hp hT hT0 hpr hlen hd1 hx1 ha1 hq1 hq2 hm
    go_enter Try.func3, Try.ntmps3
    go_wp2_with (first | (go_at_call 8; refine (awake_calls _).mono ?_; rintro e w1 ⟨rfl, hb1⟩; have HB1 := Aside0.mk hb1; clear hb1) | (go_at_call 9; ((with_reducible refine (HP.out _).mono ?_)); rintro e w2 ⟨A1, c1, A2, c2, rfl, hl1, hr1, hl2, hr2, hb2⟩; have HB2 := Aside0.mk (HB1.out.trans (hb2.mono HB1.out.size)); have HR1 := Aside0.mk hr1; have HR2 := Aside0.mk hr2; have HL1 := Aside0.mk hl1; have HL2 := Aside0.mk hl2; clear hr1 hr2 hl1 hl2; clear hb2) | (go_at_call 10; generalize hW3 : World.alloc w2 _ = w3; have hb3 := below_alloc1 hW3; have z3 := heap_alloc_new w2 (.cells #[.string nm, .slice A1 q1 c1, .slice A2 q2 c2] 26); rw [hW3] at z3; ((with_reducible refine (HRF.out _).mono ?_)); rintro e w4 ⟨A3, c3, A4, c4, rfl, hl3, hr3, hl4, hr4, hb4⟩; have HB4 := Aside0.mk (HB2.out.trans ((hb3.trans (hb4.mono hb3.size)).mono HB2.out.size)); have HB24 := Aside0.mk (hb3.trans (hb4.mono hb3.size)); have HZ3 := Aside0.mk ((hb4.block _ (Array.getElem?_eq_some_iff.1 z3).1).trans z3); have HR3 := Aside0.mk hr3; have HR4 := Aside0.mk hr4; have HL3 := Aside0.mk hl3; have HL4 := Aside0.mk hl4; clear hb3 hb4 hW3 z3 hr3 hr4 hl3 hl4))
    generalize hW6 : World.alloc w4 _ = w6
    have hb6 := below_alloc1 hW6
    have z6 := heap_alloc_new w4 (.cells #[.string nm, .slice A3 q1 c3, .slice A4 q2 c4] 33)
    rw [hW6] at z6
    have HB6 := Aside0.mk (HB4.out.trans (hb6.mono HB4.out.size))
    have HB26 := Aside0.mk (HB24.out.trans (hb6.mono HB24.out.size))
    have z3 := (hb6.block _ (Array.getElem?_eq_some_iff.1 HZ3.out).1).trans HZ3.out
    have HR3b := Aside0.mk (Kd.C_below HR3.out hb6)
    have HR4b := Aside0.mk (Kd.C_below HR4.out hb6)
    obtain ⟨b3, hb3⟩ : ∃ g, w2.heap.size = g := ⟨_, rfl⟩
    obtain ⟨b5, hb5⟩ : ∃ g, w4.heap.size = g := ⟨_, rfl⟩
    rw [hb5] at z6
    rw [hb3] at z3
    have KEEP := Aside0.mk (show ∀ W, Below w6.heap.size w6 W → (W.cell? ⟨b3, 0, none⟩ = some (.string nm) ∧ W.cell? ⟨b3, 1, none⟩ = some (.slice A1 q1 c1) ∧ W.cell? ⟨b3, 2, none⟩ = some (.slice A2 q2 c2)) ∧ (W.cell? ⟨b5, 0, none⟩ = some (.string nm) ∧ W.cell? ⟨b5, 1, none⟩ = some (.slice A3 q1 c3) ∧ W.cell? ⟨b5, 2, none⟩ = some (.slice A4 q2 c4)) from fun W hb => by
      have x3 := (hb.block _ (Array.getElem?_eq_some_iff.1 z3).1).trans z3
      have x6 := (hb.block _ (Array.getElem?_eq_some_iff.1 z6).1).trans z6
      exact ⟨⟨by simp [World.cell?, x3], by simp [World.cell?, x3], by simp [World.cell?, x3]⟩, ⟨by simp [World.cell?, x6], by simp [World.cell?, x6], by simp [World.cell?, x6]⟩⟩)
    have HR2b := Aside0.mk (Kd.C_below HR2.out HB26.out)
    have HR1b := Aside0.mk (Kd.C_below HR1.out HB26.out)
    rw [hb3, hb5]
    clear hW6 hb6 z6 z3 hb3 hb5 HZ3 HR3 HR4 HR1 HR2
    have D6 := Aside0.mk (show Below w6.heap.size w6 w6.drew from below_drew (Below.refl _ _))
    have HR2d := Aside0.mk (Kd.C_below HR2b.out D6.out)
    go_region_held3 (fun w' => (w'.cell? ⟨b3, 0, none⟩ = some (.string nm) ∧ w'.cell? ⟨b3, 1, none⟩ = some (.slice A1 q1 c1) ∧ w'.cell? ⟨b3, 2, none⟩ = some (.slice A2 q2 c2)) ∧ (w'.cell? ⟨b5, 0, none⟩ = some (.string nm) ∧ w'.cell? ⟨b5, 1, none⟩ = some (.slice A3 q1 c3) ∧ w'.cell? ⟨b5, 2, none⟩ = some (.slice A4 q2 c4))) (first | exact KEEP.out _ HB9.out | exact KEEP.out _ HB8.out | exact KEEP.out _ D6.out)
      (first
        | (go_at_call 12; ((with_reducible refine (HPL.out w6.drew _ _ _ _ HR2d.out).mono ?_)); rintro e w8 ⟨A8, c8, rfl, hl8, hk8, hb8⟩; have HB8 := Aside0.mk (D6.out.trans (hb8.mono D6.out.size)); have HL8 := Aside0.mk hl8; have HK8 := Aside0.mk hk8; clear hl8 hk8 hb8)
        | (go_at_call 11; ((with_reducible refine (HAL.out w8 _ _ _ _ _ _ _ _ (Kd.C_below HR1b.out HB8.out) HL1.out HK8.out HL8.out (Kd.C_below HR3b.out HB8.out) HL3.out (Kd.C_below HR4b.out HB8.out) HL4.out).mono ?_)); rintro e w9 ⟨rfl, hb9⟩; have HB9 := Aside0.mk (HB8.out.trans (hb9.mono HB8.out.size)); clear hb9))
    go_wp2
    go_ret
    exact ⟨rfl, HB6.out.trans (HB9.out.mono HB6.out.size)⟩
  | bad l =>
    obtain ⟨p, hpe⟩ : ∃ p, T.size - l = p := ⟨_, rfl⟩
    have HP := Aside0.mk (fun W => parse_bad T hT W l hp)
    have HRF := Aside0.mk (show ∀ W, Calls Try.prog 10 #[.string T] W fun e w' => ∃ A3 c3 A4 c4, e = .returned (.tuple #[.agg #[.string ⟨#[]⟩, .slice A3 0 c3, .slice A4 0 c4], .int .i64 (p : Int), .bool false]) ∧ ([] : List ByteArray).length ≤ c3 ∧ Kd.C Kd.string w' A3 0 [] ∧ ([] : List S66).length ≤ c4 ∧ Kd.C k66 w' A4 0 [] ∧ Below W.heap.size W w' from fun W => ref_calls T hT0 ⟨#[]⟩ [] [] p false (by rw [hp, ← hpe]; rfl) W)
    have HPL := Aside0.mk (show ∀ W, Calls Try.prog 12 #[.agg #[.string ⟨#[]⟩, .slice none 0 0, .slice none 0 0]] W fun e w' => ∃ A5 c5, e = .returned (.agg #[.string ⟨#[]⟩, .slice none 0 0, .slice A5 0 c5]) ∧ ([] : List S66).length ≤ c5 ∧ Kd.C k66 w' A5 0 [] ∧ Below W.heap.size W w' from fun W => plain_calls ⟨#[]⟩ none 0 [] none 0 [] W (Kd.C_nil _ _) (by decide))
    have HAL := Aside0.mk (show ∀ W A2 c2 A3 c3 A4 c4, Kd.C k66 W A2 0 [] → ([] : List S66).length ≤ c2 → Kd.C Kd.string W A3 0 [] → ([] : List ByteArray).length ≤ c3 → Kd.C k66 W A4 0 [] → ([] : List S66).length ≤ c4 → Calls Try.prog 11 #[.agg #[.string ⟨#[]⟩, .slice none 0 0, .slice A2 0 c2], .agg #[.string ⟨#[]⟩, .slice A3 0 c3, .slice A4 0 c4]] W fun e w' => e = .returned (.bool true) ∧ Below W.heap.size W w' from fun W A2 c2 A3 c3 A4 c4 g3 g4 g5 g6 g7 g8 =>
      alike_calls ⟨#[]⟩ none 0 [] A2 c2 [] ⟨#[]⟩ A3 c3 [] A4 c4 [] W (Kd.C_nil _ _) (Nat.le_refl _) g3 g4 g5 g6 g7 g8 (by decide) (by decide) (fun x h => by cases h))
    rw [hpe] at HP
    clear hp hT hT0 hpe
    go_enter Try.func3, Try.ntmps3
    go_wp2_with (first | (go_at_call 8; refine (awake_calls _).mono ?_; rintro e w1 ⟨rfl, hb1⟩; have HB1 := Aside0.mk hb1; clear hb1) | (go_at_call 9; ((with_reducible refine (HP.out _).mono ?_)); rintro e w2 ⟨gf, rfl, hgf, hb2⟩; have HB2 := Aside0.mk (HB1.out.trans (hb2.mono HB1.out.size)); have HGF := Aside0.mk hgf; clear hgf; clear hb2) | (go_at_call 10; generalize hW3 : World.alloc w2 _ = w3; have hb3 := below_alloc1 hW3; have z3 := heap_alloc_new w2 (.cells #[.string ⟨#[]⟩, .slice none 0 0, .slice none 0 0] 26); rw [hW3] at z3; ((with_reducible refine (HRF.out _).mono ?_)); rintro e w4 ⟨A3, c3, A4, c4, rfl, hl3, hr3, hl4, hr4, hb4⟩; have HB4 := Aside0.mk (HB2.out.trans ((hb3.trans (hb4.mono hb3.size)).mono HB2.out.size)); have HB24 := Aside0.mk (hb3.trans (hb4.mono hb3.size)); have HZ3 := Aside0.mk ((hb4.block _ (Array.getElem?_eq_some_iff.1 z3).1).trans z3); have HR3 := Aside0.mk hr3; have HR4 := Aside0.mk hr4; have HL3 := Aside0.mk hl3; have HL4 := Aside0.mk hl4; clear hb3 hb4 hW3 z3 hr3 hr4 hl3 hl4))
    generalize hW6 : World.alloc w4 _ = w6
    have hb6 := below_alloc1 hW6
    have z6 := heap_alloc_new w4 (.cells #[.string ⟨#[]⟩, .slice A3 0 c3, .slice A4 0 c4] 33)
    rw [hW6] at z6
    have HB6 := Aside0.mk (HB4.out.trans (hb6.mono HB4.out.size))
    have HB26 := Aside0.mk (HB24.out.trans (hb6.mono HB24.out.size))
    have z3 := (hb6.block _ (Array.getElem?_eq_some_iff.1 HZ3.out).1).trans HZ3.out
    have HR3b := Aside0.mk (Kd.C_below HR3.out hb6)
    have HR4b := Aside0.mk (Kd.C_below HR4.out hb6)
    obtain ⟨b3, hb3⟩ : ∃ g, w2.heap.size = g := ⟨_, rfl⟩
    obtain ⟨b5, hb5⟩ : ∃ g, w4.heap.size = g := ⟨_, rfl⟩
    rw [hb5] at z6
    rw [hb3] at z3
    have KEEP := Aside0.mk (show ∀ W, Below w6.heap.size w6 W → (W.cell? ⟨b3, 0, none⟩ = some (.string ⟨#[]⟩) ∧ W.cell? ⟨b3, 1, none⟩ = some (.slice none 0 0) ∧ W.cell? ⟨b3, 2, none⟩ = some (.slice none 0 0)) ∧ (W.cell? ⟨b5, 0, none⟩ = some (.string ⟨#[]⟩) ∧ W.cell? ⟨b5, 1, none⟩ = some (.slice A3 0 c3) ∧ W.cell? ⟨b5, 2, none⟩ = some (.slice A4 0 c4)) from fun W hb => by
      have x3 := (hb.block _ (Array.getElem?_eq_some_iff.1 z3).1).trans z3
      have x6 := (hb.block _ (Array.getElem?_eq_some_iff.1 z6).1).trans z6
      exact ⟨⟨by simp [World.cell?, x3], by simp [World.cell?, x3], by simp [World.cell?, x3]⟩, ⟨by simp [World.cell?, x6], by simp [World.cell?, x6], by simp [World.cell?, x6]⟩⟩)
    have HGF6 := Aside0.mk ((HB26.out.block _ (Array.getElem?_eq_some_iff.1 HGF.out).1).trans HGF.out)
    rw [hb3, hb5]
    clear hW6 hb6 z6 z3 hb3 hb5 HZ3 HR3 HR4 HGF
    have D6 := Aside0.mk (show Below w6.heap.size w6 w6.drew from below_drew (Below.refl _ _))
    go_region_held3 (fun w' => (w'.cell? ⟨b3, 0, none⟩ = some (.string ⟨#[]⟩) ∧ w'.cell? ⟨b3, 1, none⟩ = some (.slice none 0 0) ∧ w'.cell? ⟨b3, 2, none⟩ = some (.slice none 0 0)) ∧ (w'.cell? ⟨b5, 0, none⟩ = some (.string ⟨#[]⟩) ∧ w'.cell? ⟨b5, 1, none⟩ = some (.slice A3 0 c3) ∧ w'.cell? ⟨b5, 2, none⟩ = some (.slice A4 0 c4))) (first | exact KEEP.out _ HB9.out | exact KEEP.out _ HB8.out | exact KEEP.out _ D6.out)
      (first
        | (go_at_call 12; ((with_reducible refine (HPL.out w6.drew).mono ?_)); rintro e w8 ⟨A8, c8, rfl, hl8, hk8, hb8⟩; have HB8 := Aside0.mk (D6.out.trans (hb8.mono D6.out.size)); have HL8 := Aside0.mk hl8; have HK8 := Aside0.mk hk8; clear hl8 hk8 hb8)
        | (go_at_call 11; ((with_reducible refine (HAL.out w8 _ _ _ _ _ _ HK8.out HL8.out (Kd.C_below HR3b.out HB8.out) HL3.out (Kd.C_below HR4b.out HB8.out) HL4.out).mono ?_)); rintro e w9 ⟨rfl, hb9⟩; have HB9 := Aside0.mk (HB8.out.trans (hb9.mono HB8.out.size)); clear hb9))
    go_wp2_with (go_at_call 13; refine (fault_some gf 210 _ w9 ((HB9.out.block _ (Array.getElem?_eq_some_iff.1 HGF6.out).1).trans HGF6.out)).mono ?_; rintro e w10 ⟨rfl, hb10⟩; have HB10 := Aside0.mk (HB9.out.trans (hb10.mono HB9.out.size)); clear hb10)
    go_ret
    exact ⟨by simp, HB6.out.trans (HB10.out.mono HB6.out.size)⟩
end Go.Proofs.Ytdkkgeibifpgiaa.Rc
namespace Go.Proofs.Ytdkkgeibifpgiaa.Q
open Go.RowKit Go.Proofs.YtdkkgeibifpgiaaW.PrintWords Go.Proofs.Ytdkkgeibifpgiaa.Bytes Go.Proofs.Ytdkkgeibifpgiaa.Rc
def depotlaw21_RecipeParses.f (a0 : ByteArray) : Option Bool := if a0.size ≤ 1048576 then some true else none
theorem depotlaw21_RecipeParses.calls (a0 : ByteArray) (r : Bool) (w : World) (h : depotlaw21_RecipeParses.f a0 = some r) :
    Calls Try.prog 3 #[.string a0] w fun e w' => e = .returned (.bool r) ∧ Below w.heap.size w w' := by
  unfold depotlaw21_RecipeParses.f at h
  split at h
  case isFalse => cases h
  case isTrue hc =>
    obtain rfl := Option.some.inj h
    exact parses_walk a0 hc w
end Go.Proofs.Ytdkkgeibifpgiaa.Q
/- By a program of this session's: a plain Lean function for a Go function, and its contract. -/
set_option linter.unusedVariables false
namespace Go.Proofs.Ytdkkgeibifpgiaa.Q
open Go.RowKit Go.Proofs.YtdkkgeibifpgiaaW.PrintWords Go.Proofs.YtdkkgeibifpgiaaW.PrintLast
/-- What is left of the statement: no Go, no memory. -/
def depotlaw21_RecipeParses.Pure : Prop := ∀ (x0 : ByteArray), x0.size ≤ 140737488351232 → ((x0).size + 1) ≤ 1048576 → depotlaw21_RecipeParses.f (x0) = some true
end Go.Proofs.Ytdkkgeibifpgiaa.Q
/- What is left of RecipeParses: its bound. -/
namespace Go.Proofs.Ytdkkgeibifpgiaa.Q
open Go.RowKit Go.Proofs.YtdkkgeibifpgiaaW.PrintWords
theorem Pure.RecipeParses : depotlaw21_RecipeParses.Pure := fun x0 h1 h2 => by
  unfold depotlaw21_RecipeParses.f
  rw [if_pos (by omega)]
end Go.Proofs.Ytdkkgeibifpgiaa.Q
/- What came in, opened by its kind: a reading of a value ys data gives the Lean value of the print's kinds, with its sizes. For rows over slices and structs. -/
set_option linter.unusedVariables false
set_option linter.unusedSimpArgs false
namespace Go.Proofs.Ytdkkgeibifpgiaa.Opens
open Go.RowKit Go.Deep Go.Proofs.YtdkkgeibifpgiaaW.PrintWords

section
variable {α β : Type}
/-- A reading at type t gives a value of kind d: its cells (K), its weights (each no more than one of the datum's, or 0), its bulk, and what is good about its numbers. -/
structure Opens (P : Program) (t : TypeId) (d : Kd α) (Wt : α → List Nat) (Bk : α → Nat) (Gd : α → Prop) : Prop where
  sz : P.cellsOf t = d.sz
  out : ∀ {H : Type} {enc : TypeId × Value → H} {w : World} {base : Nat} {spare : Nat → Bool} {held : Bool} {fuel : Nat} {cs : List Value} {x : DataW H × List MemPlace},
    DataW.trod enc P w base spare held fuel t cs = some x → ∃ a, d.K w a cs ∧ (∀ n ∈ Wt a, n = 0 ∨ ∃ m ∈ x.1.weights P t, n ≤ m) ∧ Bk a ≤ Rows.uptoBulk x.1 ∧ Gd a

variable {P : Program} {t : TypeId}
theorem opens_string (ht : P.underlying t = some .string) (hs : P.cellsOf t = 1) : Opens P t Kd.string (fun s => [s.size]) (fun s => s.size + 1) (fun s => s.size ≤ maxLen) := by
  refine ⟨hs, fun {H enc w base spare held fuel cs x} h => ?_⟩
  obtain ⟨s, rfl, rfl, hw⟩ := DataW.trod_string ht h
  refine ⟨s, rfl, ?_, ?_, hw⟩
  · intro n hn
    rw [List.mem_singleton] at hn
    refine .inr ⟨s.data.toList.length, by rw [DataW.weights]; exact List.mem_singleton.2 rfl, ?_⟩
    rw [hn, Array.length_toList]
    exact Nat.le_refl _
  · rw [Rows.uptoBulk, Array.length_toList]
    exact Nat.le_refl _
theorem opens_bool (ht : P.underlying t = some .bool) (hs : P.cellsOf t = 1) : Opens P t Kd.bool (fun _ => []) (fun _ => 1) (fun _ => True) := by
  refine ⟨hs, fun {H enc w base spare held fuel cs x} h => ?_⟩
  obtain ⟨b, rfl, rfl⟩ := DataW.trod_bool ht h
  exact ⟨b, rfl, fun _ h => absurd h (by simp), by rw [Rows.uptoBulk] <;> simp, trivial⟩
theorem opens_int {k : IntKind} (ht : P.underlying t = some (.int k)) (hs : P.cellsOf t = 1) : Opens P t (Kd.int k) (fun _ => []) (fun _ => 1) (fun n => (Lit.int k n).wf = true) := by
  refine ⟨hs, fun {H enc w base spare held fuel cs x} h => ?_⟩
  obtain ⟨n, rfl, rfl, hw⟩ := DataW.trod_int ht h
  exact ⟨n, rfl, fun _ h => absurd h (by simp), by rw [Rows.uptoBulk] <;> simp, hw⟩

theorem list_of {Q : Nat → α → Prop} : ∀ (n : Nat), (∀ i, i < n → ∃ a, Q i a) → ∃ ys : List α, ys.length = n ∧ ∀ i a, ys[i]? = some a → Q i a
  | 0, _ => ⟨[], rfl, fun i a h => by simp at h⟩
  | n + 1, h => by
    obtain ⟨ys, hl, hq⟩ := list_of n (fun i hi => h i (by omega))
    obtain ⟨a, ha⟩ := h n (by omega)
    refine ⟨ys ++ [a], by simp [hl], fun i b hb => ?_⟩
    rcases Nat.lt_or_ge i n with hi | hi
    · rw [List.getElem?_append_left (by omega)] at hb
      exact hq i b hb
    · have : i < (ys ++ [a]).length := (List.getElem?_eq_some_iff.1 hb).1
      simp [hl] at this
      have e : i = n := by omega
      subst e
      rw [List.getElem?_append_right (by omega), hl, Nat.sub_self] at hb
      simp at hb
      subst hb
      exact ha
theorem sum_le_range (ys : List α) (Bk : α → Nat) (b : Nat → Nat) (h : ∀ i a, ys[i]? = some a → Bk a ≤ b i) : (ys.map Bk).sum ≤ ((List.range ys.length).map b).sum := by
  induction ys generalizing b with
  | nil => simp
  | cons a ys ih =>
    have h0 := h 0 a rfl
    have h1 := ih (fun i => b (i + 1)) (fun i a ha => h (i + 1) a (by simpa using ha))
    rw [List.length_cons, List.range_succ_eq_map, List.map_cons, List.sum_cons, List.map_cons, List.sum_cons, List.map_map]
    have e : (List.map (b ∘ Nat.succ) (List.range ys.length)) = List.map (fun i => b (i + 1)) (List.range ys.length) := rfl
    rw [e]
    omega
theorem bulkAll_sum {H : Type} (l : List (DataW H)) : Rows.uptoBulkAll l = (l.map Rows.uptoBulk).sum := by
  induction l with
  | nil => rfl
  | cons d l ih => rw [Rows.uptoBulkAll, ih, List.map_cons, List.sum_cons]
theorem weightsAll_mem {H : Type} {e : TypeId} : ∀ (l : List (DataW H)) (d : DataW H), d ∈ l → ∀ m ∈ d.weights P e, m ∈ DataW.weightsAll P e l
  | [], d, h => absurd h (by simp)
  | d' :: l, d, h => by
    intro m hm
    rw [DataW.weightsAll, List.mem_append]
    rcases List.mem_cons.1 h with rfl | h
    · exact .inl hm
    · exact .inr (weightsAll_mem l d h m hm)

theorem opens_slice {e : TypeId} {d : Kd α} {Wt : α → List Nat} {Bk : α → Nat} {Gd : α → Prop} (ht : P.underlying t = some (.slice e)) (hs : P.cellsOf t = 1) (he : Opens P e d Wt Bk Gd) :
    Opens P t (Kd.slice e d) (fun xs => (xs.length * P.bytesOf e) :: xs.flatMap Wt) (fun xs => (xs.map Bk).sum + 1) (fun xs => xs.length ≤ maxLen ∧ ∀ x ∈ xs, Gd x) := by
  refine ⟨hs, fun {H enc w base spare held fuel cs x} h => ?_⟩
  rcases open_slice ht h with ⟨rfl, rfl⟩ | ⟨a, len, cap, m, n, D, Pl, rfl, hb, hl, hm, hmm, rfl, hx⟩
  · exact ⟨[], ⟨none, 0, rfl, Nat.le_refl _, Kd.C_nil d w⟩, fun n hn => .inl (by simpa using hn), by rw [Rows.uptoBulk]; simp, by simp, by simp⟩
  · have hlm : len ≤ m := by rw [hmm]; split <;> omega
    have each : ∀ i, i < len → ∃ b : α, (∃ cs', w.cells? base (a.add (i * P.cellsOf e)) (P.cellsOf e) = some cs' ∧ d.K w b cs') ∧ (∀ q ∈ Wt b, q = 0 ∨ ∃ r ∈ (D i).weights P e, q ≤ r) ∧ Bk b ≤ Rows.uptoBulk (D i) ∧ Gd b := by
      intro i hi
      obtain ⟨cs', h1, h2⟩ := hx i (by omega)
      obtain ⟨b, hK, hw, hk, hg⟩ := he.out h2
      exact ⟨b, ⟨cs', h1, hK⟩, hw, hk, hg⟩
    obtain ⟨ys, hal, has⟩ := list_of len each
    subst hal
    refine ⟨ys, ⟨some a, cap, rfl, hl, rfl, by unfold maxLen at hm; omega, fun hp => ⟨a, rfl, fun j p hj => ?_⟩⟩, ?_, ?_, by omega, ?_⟩
    · obtain ⟨⟨cs', h1, hK⟩, _⟩ := has j p hj
      refine ⟨cs', d.K_len hK, hK, fun i u hu => ?_⟩
      have hc := World.cells?_some h1
      rw [he.sz] at hc
      obtain ⟨hc0, hc1, hc2⟩ := hc
      have hi : i < d.sz := by rw [← d.K_len hK]; exact (List.getElem?_eq_some_iff.1 hu).1
      have := hc2 i (by omega)
      rw [hu] at this
      rw [Go.Deep.add_add] at this
      exact this
    · intro q hq
      rw [List.mem_cons, List.mem_flatMap] at hq
      have hwt : (DataW.slice ((List.range ys.length).map D) ((List.range (m - ys.length)).map fun j => D (ys.length + j)) : DataW H).weights P t = (((List.range ys.length).map D).length + ((List.range (m - ys.length)).map fun j => D (ys.length + j)).length) * P.bytesOf e :: (DataW.weightsAll P e ((List.range ys.length).map D) ++ DataW.weightsAll P e ((List.range (m - ys.length)).map fun j => D (ys.length + j))) := by
        rw [DataW.weights, ht]
      show q = 0 ∨ ∃ r ∈ (DataW.slice ((List.range ys.length).map D) ((List.range (m - ys.length)).map fun j => D (ys.length + j)) : DataW H).weights P t, q ≤ r
      rw [hwt]
      rcases hq with rfl | ⟨b, hbm, hq⟩
      · refine .inr ⟨_, List.mem_cons_self, ?_⟩
        refine Nat.mul_le_mul_right _ ?_
        simp
      · obtain ⟨i, hi⟩ := List.getElem?_of_mem hbm
        have hil : i < ys.length := (List.getElem?_eq_some_iff.1 hi).1
        obtain ⟨_, hw, _⟩ := has i b hi
        rcases hw q hq with h0 | ⟨r, hr, hqr⟩
        · exact .inl h0
        · exact .inr ⟨r, List.mem_cons_of_mem _ (List.mem_append_left _ (weightsAll_mem _ (D i) (List.mem_map.2 ⟨i, List.mem_range.2 hil, rfl⟩) r hr)), hqr⟩
    · show _ ≤ Rows.uptoBulk (DataW.slice ((List.range ys.length).map D) ((List.range (m - ys.length)).map fun j => D (ys.length + j)) : DataW H)
      rw [Rows.uptoBulk, bulkAll_sum, List.map_map]
      have := sum_le_range ys Bk (fun i => Rows.uptoBulk (D i)) (fun i b hb => (has i b hb).2.2.1)
      have e2 : (List.map (Rows.uptoBulk ∘ D) (List.range ys.length)) = List.map (fun i => Rows.uptoBulk (D i)) (List.range ys.length) := rfl
      rw [e2]
      omega
    · intro b hbm
      obtain ⟨i, hi⟩ := List.getElem?_of_mem hbm
      exact (has i b hi).2.2.2

/-- Fields, from a place on. -/
structure OpensF (P : Program) (fs : List Field) (off : Nat) (d : Kd α) (Wt : α → List Nat) (Bk : α → Nat) (Gd : α → Prop) : Prop where
  out : ∀ {H : Type} {enc : TypeId × Value → H} {w : World} {base : Nat} {spare : Nat → Bool} {held : Bool} {fuel : Nat} {cs : List Value} {xs : List (DataW H × List MemPlace)},
    cs.length = off + d.sz → xs.length = fs.length → (∀ (i : Nat) (f : Field), fs[i]? = some f → DataW.trod enc P w base spare held fuel f.type ((cs.drop f.offset).take (P.cellsOf f.type)) = xs[i]?) →
    ∃ a, d.K w a (cs.drop off) ∧ (∀ n ∈ Wt a, n = 0 ∨ ∃ m ∈ DataW.weightsEach P (fs.map (·.type)) (xs.map (·.1)), n ≤ m) ∧ Bk a ≤ Rows.uptoBulkAll (xs.map (·.1)) ∧ Gd a
theorem opensF_one {f : Field} {off : Nat} {d : Kd α} {Wt : α → List Nat} {Bk : α → Nat} {Gd : α → Prop} (ho : f.offset = off) (he : Opens P f.type d Wt Bk Gd) : OpensF P [f] off d Wt Bk Gd := by
  refine ⟨fun {H enc w base spare held fuel cs xs} hc hl h => ?_⟩
  match xs, hl with
  | [x], _ =>
    have h0 := h 0 f rfl
    rw [ho, he.sz, List.take_of_length_le (by rw [List.length_drop]; omega)] at h0
    obtain ⟨a, hK, hw, hb, hg⟩ := he.out h0
    refine ⟨a, hK, fun n hn => ?_, ?_, hg⟩
    · rcases hw n hn with h | ⟨m, hm, hle⟩
      · exact .inl h
      · refine .inr ⟨m, ?_, hle⟩
        simp only [List.map_cons, List.map_nil, DataW.weightsEach, List.append_nil]
        exact hm
    · simp only [List.map_cons, List.map_nil, Rows.uptoBulkAll]
      omega
theorem opensF_cons {f : Field} {fs : List Field} {off : Nat} {d : Kd α} {d' : Kd β} {Wt : α → List Nat} {Bk : α → Nat} {Gd : α → Prop} {Wt' : β → List Nat} {Bk' : β → Nat} {Gd' : β → Prop}
    (ho : f.offset = off) (he : Opens P f.type d Wt Bk Gd) (hr : OpensF P fs (off + d.sz) d' Wt' Bk' Gd') :
    OpensF P (f :: fs) off (Kd.pair d d') (fun x => Wt x.1 ++ Wt' x.2) (fun x => Bk x.1 + Bk' x.2) (fun x => Gd x.1 ∧ Gd' x.2) := by
  refine ⟨fun {H enc w base spare held fuel cs xs} hc hl h => ?_⟩
  have hsz : (Kd.pair d d').sz = d.sz + d'.sz := rfl
  rw [hsz] at hc
  match xs, hl with
  | x :: xs, hl =>
    have h0 := h 0 f rfl
    rw [ho, he.sz] at h0
    obtain ⟨a, hK, hw, hb, hg⟩ := he.out h0
    obtain ⟨b, hK', hw', hb', hg'⟩ := hr.out (enc := enc) (w := w) (base := base) (spare := spare) (held := held) (fuel := fuel) (cs := cs) (xs := xs) (by omega) (by simpa using hl) (fun i f' hf => by simpa using h (i + 1) f' (by simpa using hf))
    refine ⟨(a, b), ⟨(cs.drop off).take d.sz, cs.drop (off + d.sz), ?_, hK, hK'⟩, fun n hn => ?_, ?_, hg, hg'⟩
    · rw [← List.drop_drop, List.take_append_drop]
    · simp only [List.map_cons, DataW.weightsEach, List.mem_append]
      rcases List.mem_append.1 hn with hn | hn
      · rcases hw n hn with h | ⟨m, hm, hle⟩
        · exact .inl h
        · exact .inr ⟨m, .inl hm, hle⟩
      · rcases hw' n hn with h | ⟨m, hm, hle⟩
        · exact .inl h
        · exact .inr ⟨m, .inr hm, hle⟩
    · simp only [List.map_cons, Rows.uptoBulkAll]
      omega
theorem opens_struct {fs : Array Field} {d : Kd α} {Wt : α → List Nat} {Bk : α → Nat} {Gd : α → Prop} (ht : P.underlying t = some (.struct fs)) (hs : P.cellsOf t = d.sz) (he : OpensF P fs.toList 0 d Wt Bk Gd) :
    Opens P t d Wt (fun a => Bk a + 1) Gd := by
  refine ⟨hs, fun {H enc w base spare held fuel cs x} h => ?_⟩
  obtain ⟨xs, n, rfl, rfl, hl, hl2, hx⟩ := DataW.trod_struct ht h
  obtain ⟨a, hK, hw, hb, hg⟩ := he.out (enc := enc) (w := w) (base := base) (spare := spare) (held := held) (fuel := n) (cs := cs) (xs := xs) (by omega) (by simpa using hl2) (fun i f hf => hx i f (by simpa using hf))
  refine ⟨a, by simpa using hK, fun n hn => ?_, ?_, hg⟩
  · rcases hw n hn with h | ⟨m, hm, hle⟩
    · exact .inl h
    · refine .inr ⟨m, ?_, hle⟩
      show m ∈ (DataW.agg (xs.map (·.1))).weights P t
      rw [DataW.weights, ht]
      exact hm
  · show _ ≤ Rows.uptoBulk (DataW.agg (xs.map (·.1)))
    rw [Rows.uptoBulk]
    omega
theorem opens_iso {d : Kd α} {Wt : α → List Nat} {Bk : α → Nat} {Gd : α → Prop} (f : β → α) (g : α → β) (hfg : ∀ a, f (g a) = a) (h : Opens P t d Wt Bk Gd) : Opens P t (Kd.iso d f) (fun b => Wt (f b)) (fun b => Bk (f b)) (fun b => Gd (f b)) := by
  refine ⟨h.sz, fun {H enc w base spare held fuel cs x} hx => ?_⟩
  obtain ⟨a, hK, hw, hb, hg⟩ := h.out hx
  refine ⟨g a, ?_, ?_, ?_, ?_⟩
  · show d.K w (f (g a)) cs
    rw [hfg]; exact hK
  · rw [hfg]; exact hw
  · rw [hfg]; exact hb
  · rw [hfg]; exact hg

/-- At an argument: its weights are within the reach. -/
theorem arg {H : Type} {enc : TypeId × Value → H} {w : World} {base : Nat} {spare : Nat → Bool} {held : Bool} {v : Value} {dd : DataW H} {ps : List MemPlace} {d : Kd α} {Wt : α → List Nat} {Bk : α → Nat} {Gd : α → Prop} (h : Opens P t d Wt Bk Gd)
    (hx : DataW.Trod enc P w base spare held t v dd ps) : ∃ a, d.K w a v.cells.toList ∧ (∀ n ∈ Wt a, n = 0 ∨ ∃ m ∈ dd.weights P t, n ≤ m) ∧ Bk a ≤ Rows.uptoBulk dd ∧ Gd a := by
  obtain ⟨fuel, hf⟩ := hx
  obtain ⟨a, h1, h2, h3, h4⟩ := h.out hf
  exact ⟨a, h1, h2, h3, h4⟩
/-- Each weight of an argument is within the reach of the form. -/
theorem reach {H : Type} {ts : List TypeId} {ds : List (DataW H)} (h : (DataW.weightsEach P ts ds).all (· ≤ reachBytes) = true) {j : Nat} {t : TypeId} {dd : DataW H} (ht : ts[j]? = some t) (hd : ds[j]? = some dd) {l : List Nat}
    (hw : ∀ n ∈ l, n = 0 ∨ ∃ m ∈ dd.weights P t, n ≤ m) : ∀ n ∈ l, n ≤ 140737488351232 := by
  intro n hn
  rcases hw n hn with h0 | ⟨m, hm, hle⟩
  · omega
  · have := DataW.weights_mem_each ht hd m hm
    rw [List.all_eq_true] at h
    have h1 := of_decide_eq_true (h m this)
    unfold reachBytes at h1
    omega
end
end Go.Proofs.Ytdkkgeibifpgiaa.Opens
