/- Split and Join undo one another, in plain words. -/
import Derived.Test.YtabgpdpdgkgmbaaDoorNameAwake
set_option linter.unusedVariables false
set_option linter.unusedSimpArgs false
namespace Go.Proofs.YtabgpdpdgkgmbaaDoor.NamePure
open Go.RowKit Go.Proofs.YtabgpdpdgkgmbaaDoor.Q Go.Proofs.YtabgpdpdgkgmbaaDoor.Loop Go.Proofs.YtabgpdpdgkgmbaaDoorW.PrintWords Go.Proofs.YtabgpdpdgkgmbaaDoorW.PrintLast Go.Proofs.YtabgpdpdgkgmbaaDoor.Bytes

/-- What Split answers. -/
def splitRes (a : ByteArray) : List ByteArray × Int × Int := if bs a = [] then ([], 0, 0) else takeNames (piecesOf a) [] 0
theorem split_res (a : ByteArray) (h : a.size ≤ 140737488355328) : name_Split.f a = some (splitRes a) := split_f a h

theorem join_cut (c : UInt8) : ∀ (l : List UInt8), Lib.join (cutAt c l) [c] = l
  | [] => by simp [cutAt, Lib.join_one]
  | x :: r => by
    have ih := join_cut c r
    rw [cutAt_cons]
    split
    · rename_i h
      subst h
      cases hc : cutAt x r with
      | nil => exact absurd hc (cutAt_ne x r)
      | cons y t =>
        rw [hc, Lib.join_cons] at ih
        rw [Lib.join_cons]
        simp only [Lib.joinTail, List.map_cons, List.flatten_cons, List.nil_append, List.singleton_append, List.cons_append]
        simp only [Lib.joinTail, List.singleton_append] at ih
        rw [ih]
    · cases hc : cutAt c r with
      | nil => exact absurd hc (cutAt_ne c r)
      | cons y t =>
        rw [hc, Lib.join_cons] at ih
        simp only
        rw [Lib.join_cons, List.cons_append, ih]
theorem cut_join (c : UInt8) : ∀ (x : List UInt8) (r : List (List UInt8)), (∀ y ∈ x :: r, c ∉ y) → cutAt c (Lib.join (x :: r) [c]) = x :: r
  | x, [], h => by rw [Lib.join_one]; exact cutAt_none c x (h x List.mem_cons_self)
  | x, y :: t, h => by
    have ih := cut_join c y t (fun z hz => h z (List.mem_cons_of_mem _ hz))
    rw [Lib.join_cons] at ih
    rw [Lib.join_cons]
    simp only [Lib.joinTail, List.map_cons, List.flatten_cons, List.singleton_append, List.cons_append] at ih ⊢
    rw [cutAt_some c x _ (h x List.mem_cons_self), List.nil_append, ih]

theorem takes_ok : ∀ (ps acc : List ByteArray) (p : Int), acc.length ≤ 31 → (takeNames ps acc p).2.1 = 0 → (takeNames ps acc p).1 = acc ++ ps ∧ (acc ++ ps).length ≤ 31 ∧ (takeNames ps acc p).2.2 = 0 ∧ ∀ x ∈ ps, chk (bs x) = 0
  | [], acc, p, h, _ => ⟨by simp [takeNames], by simpa using h, rfl, by simp⟩
  | x :: r, acc, p, h, hz => by
    rw [takeNames] at hz ⊢
    by_cases h1 : acc.length = 31
    · rw [if_pos h1] at hz; cases hz
    · rw [if_neg h1] at hz ⊢
      by_cases h2 : chk (bs x) = 0
      · rw [if_pos h2] at hz ⊢
        obtain ⟨a1, a2, a3, a4⟩ := takes_ok r (acc ++ [x]) _ (by simp; omega) hz
        refine ⟨by rw [a1]; simp, by simpa using a2, a3, fun y hy => ?_⟩
        rcases List.mem_cons.1 hy with rfl | hy
        · exact h2
        · exact a4 y hy
      · rw [if_neg h2] at hz; exact absurd hz h2
theorem takes_bad : ∀ (ps acc : List ByteArray) (p : Int), (takeNames ps acc p).2.1 ≠ 0 → (takeNames ps acc p).1 = []
  | [], acc, p, hz => absurd rfl hz
  | x :: r, acc, p, hz => by
    rw [takeNames] at hz ⊢
    split
    · rfl
    · rename_i h1
      rw [if_neg h1] at hz
      split
      · rename_i h2
        rw [if_pos h2] at hz
        exact takes_bad r _ _ hz
      · rfl
theorem map_pieces (a : ByteArray) : (piecesOf a).map bs = cutAt 47 (bs a) := by
  unfold piecesOf
  rw [List.map_map]
  conv => rhs; rw [← List.map_id (cutAt 47 (bs a))]
  exact List.map_congr_left fun x _ => bs_mk x
/-- What Split takes: its names are right, at most 31, and joined they are the path. -/
structure SplitOk (a : ByteArray) (l : List ByteArray) : Prop where
  len : l.length ≤ 31
  chk : ∀ x ∈ l, chk (bs x) = 0
  join : Lib.join (l.map bs) [47] = bs a
  nil : l = [] ↔ bs a = []
theorem split_ok (a : ByteArray) (h : (splitRes a).2.1 = 0) : SplitOk a (splitRes a).1 ∧ (splitRes a).2.2 = 0 := by
  unfold splitRes at h ⊢
  by_cases hb : bs a = []
  · rw [if_pos hb]
    exact ⟨⟨by simp, by simp, by rw [hb]; rfl, by simp [hb]⟩, rfl⟩
  · rw [if_neg hb] at h ⊢
    obtain ⟨a1, a2, a3, a4⟩ := takes_ok (piecesOf a) [] 0 (by simp) h
    rw [List.nil_append] at a1 a2
    rw [a1]
    refine ⟨⟨a2, a4, by rw [map_pieces]; exact join_cut 47 _, ?_⟩, a3⟩
    constructor
    · intro e
      have := map_pieces a
      rw [e] at this
      exact absurd this.symm (cutAt_ne _ _)
    · intro e; exact absurd e hb
theorem split_bad (a : ByteArray) (h : (splitRes a).2.1 ≠ 0) : (splitRes a).1 = [] := by
  unfold splitRes at h ⊢
  by_cases hb : bs a = []
  · rw [if_pos hb]
  · rw [if_neg hb] at h ⊢
    exact takes_bad _ _ _ h
theorem bs_joinOf (l : List ByteArray) : bs (joinOf l) = Lib.join (l.map bs) [47] := bs_mk _
theorem join_ok {a : ByteArray} {l : List ByteArray} (h : SplitOk a l) : joinRes l = (joinOf l, 0, 0) ∧ bs (joinOf l) = bs a := by
  refine ⟨?_, by rw [bs_joinOf, h.join]⟩
  unfold joinRes
  rw [jfault_of l 0 (by have := h.len; omega) h.chk]
/-- Right names, joined and split again. -/
theorem split_join (l : List ByteArray) (hl : l.length ≤ 31) (hc : ∀ x ∈ l, chk (bs x) = 0) : splitRes (joinOf l) = (l, 0, 0) := by
  unfold splitRes
  cases l with
  | nil => rw [if_pos (by rw [bs_joinOf]; rfl)]
  | cons x r =>
    have hx := chk_len (hc x List.mem_cons_self)
    rw [if_neg (by
      rw [bs_joinOf, List.map_cons, Lib.join_cons]
      intro e
      exact hx.1 (List.append_eq_nil_iff.1 e).1)]
    have hp : piecesOf (joinOf (x :: r)) = x :: r := pieces_of (by
      rw [bs_joinOf, List.map_cons]
      exact (cut_join 47 (bs x) (r.map bs) (fun y hy => by
        rw [← List.map_cons (f := bs)] at hy
        obtain ⟨z, hz, rfl⟩ := List.mem_map.1 hy
        exact (chk_len (hc z hz)).2.2)).symm)
    have := take_taken (pre := x :: r) ⟨hl, hc⟩ []
    rw [List.append_nil] at this
    rw [hp, this, takeNames]
theorem joinOf_size (l : List ByteArray) (hl : l.length ≤ 31) (hc : ∀ x ∈ l, chk (bs x) = 0) : (joinOf l).size ≤ 7936 := by
  rw [size_bs, bs_joinOf]
  exact join_len l hl hc
theorem row_len {l : List ByteArray} {b : Nat} (hb : b = 16) (h : ∀ n ∈ (l.length * b :: l.flatMap (fun y => [y.size])), n ≤ 140737488351232) : l.length ≤ 8796093021952 ∧ ∀ y ∈ l, (bs y).length ≤ 140737488351232 := by
  subst hb
  refine ⟨?_, fun y hy => ?_⟩
  · have := h _ List.mem_cons_self
    omega
  · rw [← size_bs]
    exact h _ (List.mem_cons_of_mem _ (List.mem_flatMap.2 ⟨y, hy, by simp⟩))
theorem bytes_str : Tryd.prog.bytesOf 9 = 16 := by kernel_rfl
end Go.Proofs.YtabgpdpdgkgmbaaDoor.NamePure
