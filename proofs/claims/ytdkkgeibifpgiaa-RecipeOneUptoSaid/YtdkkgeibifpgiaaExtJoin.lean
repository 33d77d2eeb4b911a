/- strings.Join by the library's own contract. -/
import Derived.Test.YtdkkgeibifpgiaaQ0
import Derived.Test.YtdkkgeibifpgiaaBytes
import Derived.Test.YtdkkgeibifpgiaaShelf
namespace Go.Proofs.Ytdkkgeibifpgiaa.Q
open Go.RowKit Go.Proofs.YtdkkgeibifpgiaaW.PrintWords Go.Proofs.YtdkkgeibifpgiaaW.PrintLast Go.Proofs.YtdkkgeibifpgiaaW.PrintMore Go.Proofs.Ytdkkgeibifpgiaa.Bytes
set_option linter.unusedVariables false
set_option linter.unusedSimpArgs false

def strings_Join.f (l0 : List ByteArray) (sep : ByteArray) : Option ByteArray :=
  if l0.length ≤ 140737488355328 ∧ (Lib.join (l0.map bs) (bs sep)).length ≤ 140737488355328 then some ⟨(Lib.join (l0.map bs) (bs sep)).toArray⟩ else none
theorem strings_Join.calls (A0 : Option Addr) (c0 : Nat) (l0 : List ByteArray) (a1 : ByteArray) (r : ByteArray) (w : World) (hr0 : Kd.C Kd.string w A0 l0.length l0) (hc0 : l0.length ≤ c0) (h : strings_Join.f l0 a1 = some r) :
    Calls Try.prog 30 #[.slice A0 l0.length c0, .string a1] w fun e w' => e = .returned (.string r) ∧ Below w.heap.size w w' := by
  unfold strings_Join.f at h
  split at h
  case isFalse => cases h
  case isTrue hc =>
    obtain rfl := Option.some.inj h
    cases l0 with
    | nil =>
      refine (Try.strings_Join_none A0 c0 a1 w).mono ?_
      rintro e w' ⟨rfl, rfl⟩
      exact ⟨rfl, Below.refl _ _⟩
    | cons x t =>
      obtain ⟨ad, rfl, hcells⟩ := hr0.2.2 (by simp)
      have hcell : ∀ (j : Nat) y, (x :: t)[j]? = some y → w.cell? (ad.add j) = some (.string y) := by
        intro j y hy
        obtain ⟨c, hcl, hcy, hu⟩ := hcells j y hy
        have hcy' : c = [Value.string y] := hcy
        subst hcy'
        have := hu 0 (.string y) rfl
        simpa [Kd.string, Kd.scalar] using this
      have h0 := hcell 0 x rfl
      have hs : ad.spot = none := by
        have h0' : w.cell? ad = some (.string x) := h0
        cases hsp : ad.spot with
        | none => rfl
        | some k =>
          unfold World.cell? at h0'
          split at h0'
          · rw [hsp] at h0'; simp at h0'
          · cases h0'
      have hlt : ad.block < w.heap.size := World.block_lt_of_cell? w ad h0
      obtain ⟨b, o, s⟩ := ad
      obtain rfl : s = none := hs
      refine (Try.strings_Join b o c0 (x :: t) a1 w (fun j y hy => ?_) hlt hc.1 hc0 hc.2).mono ?_
      · have := hcell j y hy
        unfold Addr.add at this
        split at this
        · rename_i e; subst e; exact this
        · exact this
      · rintro e w' ⟨rfl, hb⟩
        exact ⟨rfl, hb⟩
end Go.Proofs.Ytdkkgeibifpgiaa.Q
