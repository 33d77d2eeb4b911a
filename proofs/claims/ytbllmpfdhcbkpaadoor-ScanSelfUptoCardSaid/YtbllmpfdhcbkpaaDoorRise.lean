/- Strings' order on byte arrays; strictly rising rows with the same members are one. -/
import Derived.Test.YtbllmpfdhcbkpaaDoorBytes
namespace Go.Proofs.YtbllmpfdhcbkpaaDoor.Rise
open Go.RowKit Go.Proofs.YtbllmpfdhcbkpaaDoor.Bytes
set_option linter.unusedVariables false
set_option linter.unusedSimpArgs false
theorem less_irr : ∀ a : List UInt8, Op.bytesLess a a = false
  | [] => rfl
  | x :: a => by
    have : ¬ x < x := by rw [UInt8.lt_iff_toNat_lt]; omega
    simp [Op.bytesLess, this, less_irr a]
theorem less_trans : ∀ a b c : List UInt8, Op.bytesLess a b = true → Op.bytesLess b c = true → Op.bytesLess a c = true
  | [], [], _, h, _ => by simp [Op.bytesLess] at h
  | [], _ :: _, [], _, h => by simp [Op.bytesLess] at h
  | [], _ :: _, _ :: _, _, _ => by simp [Op.bytesLess]
  | _ :: _, [], _, h, _ => by simp [Op.bytesLess] at h
  | _ :: _, _ :: _, [], _, h => by simp [Op.bytesLess] at h
  | x :: a, y :: b, z :: c, h, k => by
    simp only [Op.bytesLess, Bool.or_eq_true, Bool.and_eq_true, decide_eq_true_eq, beq_iff_eq, UInt8.lt_iff_toNat_lt] at h k ⊢
    rcases h with h | ⟨rfl, h⟩
    · rcases k with k | ⟨rfl, k⟩
      · exact Or.inl (by omega)
      · exact Or.inl h
    · rcases k with k | ⟨rfl, k⟩
      · exact Or.inl k
      · exact Or.inr ⟨rfl, less_trans a b c h k⟩
theorem less_or : ∀ a b : List UInt8, a ≠ b → Op.bytesLess a b = false → Op.bytesLess b a = true
  | [], [], h, _ => absurd rfl h
  | [], _ :: _, _, h => by simp [Op.bytesLess] at h
  | _ :: _, [], _, _ => by simp [Op.bytesLess]
  | x :: a, y :: b, h, k => by
    simp only [Op.bytesLess, Bool.or_eq_false_iff, Bool.and_eq_false_iff, decide_eq_false_iff_not, beq_eq_false_iff_ne, Bool.or_eq_true, Bool.and_eq_true, decide_eq_true_eq, beq_iff_eq, UInt8.lt_iff_toNat_lt] at k ⊢
    by_cases e : x = y
    · subst e
      refine Or.inr ⟨rfl, less_or a b (fun e => h (by rw [e])) ?_⟩
      rcases k.2 with k | k
      · exact absurd rfl k
      · exact k
    · have : x.toNat ≠ y.toNat := fun e2 => e (UInt8.toNat_inj.1 e2)
      exact Or.inl (by omega)
def Lt (a b : ByteArray) : Prop := Op.bytesLess a.toList b.toList = true
theorem lt_irr (a : ByteArray) : ¬ Lt a a := by unfold Lt; rw [less_irr]; exact Bool.noConfusion
theorem lt_trans {a b c : ByteArray} (h : Lt a b) (k : Lt b c) : Lt a c := less_trans _ _ _ h k
theorem lt_or {a b : ByteArray} (h : a ≠ b) (k : ¬ Lt a b) : Lt b a := less_or _ _ (fun e => h (bs_inj (by rwa [toList_bs, toList_bs] at e))) (by unfold Lt at k; simpa using k)
def Sorted (ks : List ByteArray) : Prop := ks.Pairwise Lt
theorem len_sub {α : Type} [DecidableEq α] : ∀ (a b : List α), a.Nodup → (∀ x ∈ a, x ∈ b) → a.length ≤ b.length
  | [], _, _, _ => Nat.zero_le _
  | x :: a, b, h, hs => by
    obtain ⟨hx, ha⟩ := List.nodup_cons.1 h
    have hb := hs x List.mem_cons_self
    have := len_sub a (b.erase x) ha (fun y hy => (List.mem_erase_of_ne (fun e => hx (by rw [← e]; exact hy))).2 (hs y (List.mem_cons_of_mem _ hy)))
    rw [List.length_erase_of_mem hb] at this
    have h0 := List.length_pos_of_mem hb
    rw [List.length_cons]
    omega
theorem lt_asymm {a b : ByteArray} (h : Lt a b) : ¬ Lt b a := fun k => lt_irr a (lt_trans h k)
theorem sorted_ext : ∀ {a b : List ByteArray}, Sorted a → Sorted b → (∀ x, x ∈ a ↔ x ∈ b) → a = b
  | [], [], _, _, _ => rfl
  | [], y :: b, _, _, h => absurd ((h y).2 List.mem_cons_self) (by simp)
  | x :: a, [], _, _, h => absurd ((h x).1 List.mem_cons_self) (by simp)
  | x :: a, y :: b, ha, hb, h => by
    obtain ⟨ha1, ha2⟩ := List.pairwise_cons.1 ha
    obtain ⟨hb1, hb2⟩ := List.pairwise_cons.1 hb
    have e : x = y := by
      rcases List.mem_cons.1 ((h x).1 List.mem_cons_self) with e | hx
      · exact e
      · rcases List.mem_cons.1 ((h y).2 List.mem_cons_self) with e | hy
        · exact e.symm
        · exact absurd (ha1 y hy) (lt_asymm (hb1 x hx))
    subst e
    congr 1
    refine sorted_ext ha2 hb2 (fun z => ⟨fun hz => ?_, fun hz => ?_⟩)
    · rcases List.mem_cons.1 ((h z).1 (List.mem_cons_of_mem _ hz)) with e | h'
      · subst e
        exact absurd (ha1 z hz) (lt_irr z)
      · exact h'
    · rcases List.mem_cons.1 ((h z).2 (List.mem_cons_of_mem _ hz)) with e | h'
      · subst e
        exact absurd (hb1 z hz) (lt_irr z)
      · exact h'
theorem sorted_nodup {ks : List ByteArray} (h : Sorted ks) : ks.Nodup := List.Pairwise.imp (R := Lt) (S := (· ≠ ·)) (fun {a b} hl e => by subst e; exact lt_irr _ hl) h
theorem sorted_snoc {l : List ByteArray} (h : Sorted l) {x : ByteArray} (hx : ∀ y ∈ l, Lt y x) : Sorted (l ++ [x]) :=
  List.pairwise_append.2 ⟨h, List.pairwise_singleton _ _, fun a ha b hb => by rw [List.mem_singleton] at hb; subst hb; exact hx a ha⟩
end Go.Proofs.YtbllmpfdhcbkpaaDoor.Rise
