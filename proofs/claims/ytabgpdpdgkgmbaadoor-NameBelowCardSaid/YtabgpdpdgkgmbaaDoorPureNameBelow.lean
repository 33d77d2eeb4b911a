/- NameBelow, the plain law. -/
import Derived.Test.YtabgpdpdgkgmbaaDoorQ37
import Derived.Test.YtabgpdpdgkgmbaaDoorNameBackPure
set_option linter.unusedVariables false
set_option linter.unusedSimpArgs false
namespace Go.Proofs.YtabgpdpdgkgmbaaDoor.Pure
open Go.RowKit Go.Proofs.YtabgpdpdgkgmbaaDoor.Q Go.Proofs.YtabgpdpdgkgmbaaDoor.Loop Go.Proofs.YtabgpdpdgkgmbaaDoorW.PrintWords Go.Proofs.YtabgpdpdgkgmbaaDoorW.PrintLast Go.Proofs.YtabgpdpdgkgmbaaDoorW.PrintMore Go.Proofs.YtabgpdpdgkgmbaaDoor.Bytes Go.Proofs.YtabgpdpdgkgmbaaDoor.NamePure

theorem hasPrefix (a b : ByteArray) : strings_HasPrefix.f a b = some (decide (bs b <+: bs a)) := by
  unfold strings_HasPrefix.f stringslite_HasPrefix.f
  simp only [toList_bs, bs_extract, size_bs, Option.bind_some]
  have e : ((((bs b).length : Int) : Int).toNat) = (bs b).length := by omega
  rw [e]
  simp only [List.drop_zero, Nat.sub_zero]
  by_cases h : (bs b).length ≤ (bs a).length
  · rw [if_pos (by omega), if_pos (by omega), if_pos (by omega)]
    simp only [Option.bind_some, Option.some.injEq]
    rw [Bool.eq_iff_iff]
    simp only [beq_iff_eq, decide_eq_true_eq]
    rw [List.prefix_iff_eq_take]
    exact eq_comm
  · rw [if_neg (by omega)]
    simp only [Option.bind_some, Option.some.injEq]
    symm
    rw [decide_eq_false_iff_not]
    intro hp
    exact h hp.length_le

theorem name_under (a b : ByteArray) (hb : b.size ≤ 140737488351232) : name_Under.f a b = some (decide (bs b = [] ∨ bs a = bs b ∨ (bs b ++ [47]) <+: bs a)) := by
  unfold name_Under.f
  rw [hasPrefix, bs_append]
  simp only [toList_bs, size_bs, Option.bind_some]
  have e : bs (⟨#[47]⟩ : ByteArray) = [47] := rfl
  rw [e]
  rw [size_bs] at hb
  by_cases h1 : bs b = []
  · rw [if_pos h1]
    simp [h1]
  · rw [if_neg h1]
    by_cases h2 : bs a = bs b
    · rw [if_pos h2]
      simp [h2]
    · rw [if_neg h2, if_pos (by omega)]
      simp [h1, h2]


theorem cutAt_append (c : UInt8) : ∀ (x y : List UInt8), cutAt c (x ++ c :: y) = cutAt c x ++ cutAt c y
  | [], y => by simp [cutAt]
  | z :: x, y => by
    have ih := cutAt_append c x y
    rw [List.cons_append, cutAt_cons, cutAt_cons, ih]
    split
    · rfl
    · cases hc : cutAt c x with
      | nil => exact absurd hc (cutAt_ne c x)
      | cons h t => rfl
theorem map_inj {xs ys : List ByteArray} (h : xs.map bs = ys.map bs) : xs = ys := by
  induction xs generalizing ys with
  | nil => cases ys with
    | nil => rfl
    | cons y t => cases h
  | cons x r ih =>
    cases ys with
    | nil => cases h
    | cons y t =>
      simp only [List.map_cons, List.cons.injEq] at h
      rw [bs_inj h.1, ih h.2]
theorem ok_cut {x : ByteArray} {l : List ByteArray} (h : SplitOk x l) (hn : l ≠ []) : cutAt 47 (bs x) = l.map bs := by
  cases l with
  | nil => exact absurd rfl hn
  | cons y t =>
    rw [← h.join, List.map_cons]
    refine cut_join 47 _ _ fun z hz => ?_
    rw [← List.map_cons (f := bs)] at hz
    obtain ⟨u, hu, rfl⟩ := List.mem_map.1 hz
    exact (chk_len (h.chk u hu)).2.2
theorem join_append (sep : List UInt8) : ∀ (xs ys : List (List UInt8)), xs ≠ [] → ys ≠ [] → Lib.join (xs ++ ys) sep = Lib.join xs sep ++ (sep ++ Lib.join ys sep)
  | [], _, h, _ => absurd rfl h
  | x :: r, [], _, h => absurd rfl h
  | x :: r, y :: t, _, _ => by
    rw [List.cons_append, Lib.join_cons, Lib.join_cons, Lib.join_cons]
    simp [Lib.joinTail]
theorem below_iff {p t : ByteArray} {a b : List ByteArray} (ha : SplitOk p a) (hb : SplitOk t b) : (bs t = [] ∨ bs p = bs t ∨ (bs t ++ [47]) <+: bs p) ↔ (b.length ≤ a.length ∧ a.take b.length = b) := by
  by_cases h0 : b = []
  · subst h0
    simp [hb.nil.1 rfl]
  · have ht : bs t ≠ [] := fun e => h0 (hb.nil.2 e)
    have cb := ok_cut hb h0
    constructor
    · rintro (h | h | h)
      · exact absurd h ht
      · have hna : a ≠ [] := fun e => ht (h ▸ ha.nil.1 e)
        have e : a = b := map_inj (by rw [← ok_cut ha hna, h, cb])
        subst e
        exact ⟨Nat.le_refl _, List.take_length⟩
      · obtain ⟨s, hs⟩ := h
        have hp : bs p ≠ [] := by rw [← hs]; simp
        have hna : a ≠ [] := fun e => hp (ha.nil.1 e)
        have ca := ok_cut ha hna
        rw [← hs, List.append_assoc, List.singleton_append, cutAt_append, cb] at ca
        have hl := congrArg List.length ca
        rw [List.length_append, List.length_map, List.length_map] at hl
        refine ⟨by omega, map_inj ?_⟩
        rw [List.map_take, ← ca, List.take_left' (by rw [List.length_map])]
    · rintro ⟨h1, h2⟩
      have e : a = b ++ a.drop b.length := by conv => lhs; rw [← List.take_append_drop b.length a, h2]
      by_cases hr : a.drop b.length = []
      · rw [hr, List.append_nil] at e
        right; left
        rw [← ha.join, ← hb.join, e]
      · right; right
        rw [← ha.join, e, List.map_append, join_append [47] _ _ (by simpa using h0) (by simpa using hr), hb.join]
        exact ⟨Lib.join ((a.drop b.length).map bs) [47], by simp⟩
theorem below_j1 {p t : ByteArray} {a b : List ByteArray} (h : t.size ≤ 140737488351232) (la : a.length ≤ 31) (lb : b.length ≤ 31) (k : Nat) (hk : 40 ≤ k) (flag : Bool) (hf : flag = false → SplitOk p a ∧ SplitOk t b) : depotlaw05_NameBelow.j1 k p t a b flag = some true := by
  obtain ⟨k, rfl⟩ : ∃ m, k = m + 1 := ⟨k - 1, by omega⟩
  simp only [depotlaw05_NameBelow.j1]
  cases flag with
  | true => rw [if_pos rfl]
  | false =>
    obtain ⟨ha, hb⟩ := hf rfl
    rw [if_neg (by decide), name_under p t h]
    have hi := below_iff ha hb
    by_cases hl : b.length ≤ a.length
    · have hm : mn (a.length : Int) (b.length : Int) = (b.length : Int) := by unfold mn; split <;> omega
      rw [if_pos (by omega), hm, if_pos (by omega), if_pos (by omega), Int.toNat_natCast, alike_f _ _ (by rw [List.length_take]; omega) k (by rw [List.length_take]; omega)]
      simp only [Option.bind_some, Option.some.injEq, beq_iff_eq, decide_eq_decide]
      rw [hi]
      simp [hl]
    · rw [if_neg (by omega)]
      simp only [Option.bind_some, Option.some.injEq, beq_iff_eq, decide_eq_false_iff_not]
      rw [hi]
      exact fun e => hl e.1
theorem below_l0 {p t : ByteArray} {a b xs : List ByteArray} (h : t.size ≤ 140737488351232) (la : a.length ≤ 31) (lb : b.length ≤ 31) (c1 c2 c3 c4 : Int) (hf : c1 = 0 → c3 = 0 → SplitOk p a ∧ SplitOk t b) (hx : xs.length ≤ 31) (hc : ∀ x ∈ xs, chk (bs x) = 0) (d : Nat) :
    ∀ (i k : Nat), xs.length - i = d → d + 50 ≤ k → depotlaw05_NameBelow.l0 k p t a b xs (xs.length : Int) (i : Int) c1 c2 c3 c4 = some true := by
  induction d with
  | zero =>
    intro i k hd hk
    obtain ⟨k, rfl⟩ : ∃ m, k = m + 1 := ⟨k - 1, by omega⟩
    simp only [depotlaw05_NameBelow.l0]
    rw [if_neg (by omega)]
    split
    · rename_i h1
      refine below_j1 h la lb k (by omega) _ fun e => hf h1 ?_
      simpa using e
    · exact below_j1 h la lb k (by omega) _ (fun e => by cases e)
  | succ d ih =>
    intro i k hd hk
    obtain ⟨k, rfl⟩ : ∃ m, k = m + 1 := ⟨k - 1, by omega⟩
    have hlt : i < xs.length := by omega
    simp only [depotlaw05_NameBelow.l0]
    rw [if_pos (by omega), if_pos (by omega), if_pos (by omega), rd_nat _ _ hlt, name_check]
    simp only [Option.bind_some]
    rw [if_pos (hc _ (List.getElem_mem hlt)), wr i (by omega)]
    exact ih (i + 1) k (by omega) (by omega)
theorem split_chk (a : ByteArray) : ∀ x ∈ (splitRes a).1, chk (bs x) = 0 := by
  by_cases h : (splitRes a).2.1 = 0
  · exact (split_ok a h).1.chk
  · rw [split_bad a h]; simp
theorem NameBelow : depotlaw05_NameBelow.Pure := by
  intro p t hp ht
  refine ⟨200, ?_⟩
  have l1 : (splitRes p).1.length ≤ 31 := split_len p
  have l2 : (splitRes t).1.length ≤ 31 := split_len t
  unfold depotlaw05_NameBelow.f
  rw [awake_f _ (by omega)]
  simp only [Option.bind_some, if_true]
  rw [split_res p (by omega), split_res t (by omega)]
  simp only [Option.bind_some]
  exact below_l0 ht l1 l2 _ _ _ _ (fun e1 e2 => ⟨(split_ok p e1).1, (split_ok t e2).1⟩) l1 (split_chk p) _ 0 200 rfl (by omega)
end Go.Proofs.YtabgpdpdgkgmbaaDoor.Pure
