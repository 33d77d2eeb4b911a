/- What name.Join answers, in plain words. -/
import Derived.Test.YtabgpdpdgkgmbaaDoorNameSplitPure
import Derived.Test.YtabgpdpdgkgmbaaDoorQ21
set_option linter.unusedVariables false
set_option linter.unusedSimpArgs false
namespace Go.Proofs.YtabgpdpdgkgmbaaDoor.NamePure
open Go.RowKit Go.Proofs.YtabgpdpdgkgmbaaDoor.Q Go.Proofs.YtabgpdpdgkgmbaaDoor.Loop Go.Proofs.YtabgpdpdgkgmbaaDoorW.PrintWords Go.Proofs.YtabgpdpdgkgmbaaDoorW.PrintLast Go.Proofs.YtabgpdpdgkgmbaaDoor.Bytes

/-- The first name that can't be joined: its fault, its place. -/
def jfault : List ByteArray → Nat → Option (Int × Nat)
  | [], _ => none
  | x :: r, i => if i = 31 then some (61, i) else if chk (bs x) = 0 then jfault r (i + 1) else some (chk (bs x), i)
/-- The names with '/' between. -/
def joinOf (l : List ByteArray) : ByteArray := ⟨(Lib.join (l.map bs) [47]).toArray⟩
def joinRes (l : List ByteArray) : ByteArray × Int × Int := match jfault l 0 with | some (c, i) => (⟨#[]⟩, c, (i : Int)) | none => (joinOf l, 0, 0)
theorem jfault_none : ∀ (l : List ByteArray) (i : Nat), jfault l i = none → i ≤ 31 → i + l.length ≤ 31 ∧ ∀ x ∈ l, chk (bs x) = 0
  | [], i, _, hi => ⟨by simpa using hi, by simp⟩
  | x :: r, i, h, hi => by
    rw [jfault] at h
    split at h
    · cases h
    · split at h
      · obtain ⟨h1, h2⟩ := jfault_none r (i + 1) h (by omega)
        refine ⟨by simp; omega, fun y hy => ?_⟩
        rcases List.mem_cons.1 hy with rfl | hy
        · assumption
        · exact h2 y hy
      · cases h
theorem jfault_of : ∀ (l : List ByteArray) (i : Nat), i + l.length ≤ 31 → (∀ x ∈ l, chk (bs x) = 0) → jfault l i = none
  | [], i, _, _ => rfl
  | x :: r, i, h, hc => by
    rw [jfault, if_neg (by simp at h; omega), if_pos (hc x List.mem_cons_self)]
    exact jfault_of r (i + 1) (by simp at h; omega) (fun y hy => hc y (List.mem_cons_of_mem _ hy))
theorem jfault_code : ∀ (l : List ByteArray) (i : Nat) (c : Int) (j : Nat), jfault l i = some (c, j) → c ≠ 0
  | [], i, c, j, h => by cases h
  | x :: r, i, c, j, h => by
    rw [jfault] at h
    split at h
    · cases h; decide
    · split at h
      · exact jfault_code r (i + 1) c j h
      · cases h; assumption
theorem chk_len {l : List UInt8} (h : chk l = 0) : l ≠ [] ∧ l.length ≤ 255 ∧ (47 : UInt8) ∉ l := by
  unfold chk at h
  split at h
  · cases h
  · rename_i h1
    split at h
    · cases h
    · rename_i h2
      split at h
      · cases h
      · rename_i h3
        exact ⟨h1, by omega, fun e => h3 (.inl e)⟩
theorem joinTail_len (sep : List UInt8) (hsep : sep.length = 1) : ∀ (r : List ByteArray), (∀ x ∈ r, (bs x).length ≤ 255) → (Lib.joinTail sep (r.map bs)).length ≤ 256 * r.length
  | [], _ => by simp [Lib.joinTail]
  | x :: r, h => by
    have h1 := joinTail_len sep hsep r (fun y hy => h y (List.mem_cons_of_mem _ hy))
    have h2 := h x List.mem_cons_self
    simp only [Lib.joinTail, List.map_cons, List.flatten_cons, List.length_append, List.length_cons] at h1 ⊢
    omega
theorem join_len (l : List ByteArray) (h : l.length ≤ 31) (hc : ∀ x ∈ l, chk (bs x) = 0) : (Lib.join (l.map bs) [47]).length ≤ 7936 := by
  cases l with
  | nil => simp [Lib.join_nil]
  | cons x r =>
    rw [List.map_cons, Lib.join_cons, List.length_append]
    have h1 := joinTail_len [47] rfl r (fun y hy => (chk_len (hc y (List.mem_cons_of_mem _ hy))).2.1)
    have h2 := (chk_len (hc x List.mem_cons_self)).2.1
    simp at h
    omega
theorem join_l0 (l : List ByteArray) (hx : l.length ≤ 140737488355328) (d : Nat) : ∀ (i k : Nat), l.length - i = d → i ≤ l.length → d < k → (∀ j : Nat, (hj : j < l.length) → j < i → chk (bs l[j]) = 0) → i ≤ 31 →
    name_Join.l0 k l l (l.length : Int) (i : Int) = some (match jfault (l.drop i) i with | some (c, i) => (⟨#[]⟩, c, (i : Int)) | none => (joinOf l, 0, 0)) := by
  induction d with
  | zero =>
    intro i k hd hi hk hc h31
    obtain ⟨k, rfl⟩ : ∃ m, k = m + 1 := ⟨k - 1, by omega⟩
    simp only [name_Join.l0]
    rw [if_neg (by omega), List.drop_of_length_le (by omega)]
    have hcl : ∀ x ∈ l, chk (bs x) = 0 := fun x hx => by
      obtain ⟨j, hj, rfl⟩ := List.getElem_of_mem hx
      exact hc j hj (by omega)
    have e : strings_Join.f l (⟨#[47]⟩ : ByteArray) = some (joinOf l) := by
      unfold strings_Join.f
      have := join_len l (by omega) hcl
      rw [if_pos ⟨hx, by show (Lib.join (l.map bs) [47]).length ≤ _; omega⟩]
      rfl
    rw [e]
    rfl
  | succ d ih =>
    intro i k hd hi hk hc h31
    obtain ⟨k, rfl⟩ : ∃ m, k = m + 1 := ⟨k - 1, by omega⟩
    have hlt : i < l.length := by omega
    simp only [name_Join.l0]
    rw [if_pos (by omega), if_pos (by omega), if_pos (by omega), rd_nat _ _ hlt, List.drop_eq_getElem_cons hlt, jfault, name_check]
    by_cases h : i = 31
    · rw [if_pos (by omega), if_pos h]
    · rw [if_neg (by omega), if_neg h]
      simp only [Option.bind_some]
      by_cases h2 : chk (bs l[i]) = 0
      · rw [if_pos h2, if_pos h2, wr i (by omega)]
        refine ih (i + 1) k (by omega) (by omega) (by omega) (fun j hj hji => ?_) (by omega)
        rcases Nat.lt_or_ge j i with hj2 | hj2
        · exact hc j hj hj2
        · obtain rfl : j = i := by omega
          exact h2
      · rw [if_neg h2, if_neg h2]
theorem join_f (l : List ByteArray) (hx : l.length ≤ 140737488355328) (k : Nat) (hk : l.length < k) : name_Join.f k l = some (joinRes l) := by
  have := join_l0 l hx l.length 0 k (by omega) (Nat.zero_le _) hk (fun j hj h => by omega) (by omega)
  rw [List.drop_zero] at this
  exact this
end Go.Proofs.YtabgpdpdgkgmbaaDoor.NamePure
