/- Texts of this claim, put together: NameJoinPure, NameAwake, NameBackPure, PureNameJoins, Opens, Door. -/
import Derived.Test.YtabgpdpdgkgmbaaDoorNameSplitPure
import Derived.Test.YtabgpdpdgkgmbaaDoorQ21
import Derived.Test.YtabgpdpdgkgmbaaDoorQ22
import Derived.Test.YtabgpdpdgkgmbaaDoorPdNameJoins
import Derived.Test.YtabgpdpdgkgmbaaDoorRows
import Derived.Test.YtabgpdpdgkgmbaaDoorWWords
import Derived.Test.YtabgpdpdgkgmbaaDoorWLast
import Derived.Deep.Slices
import Derived.ProofKit
import Derived.SizedLaws
import Derived.LaidMore
import Derived.LaidLaws
import Derived.LaidHandle
import Derived.OpenShut
/- What name.Join answers, in plain words. -/
set_option linter.unusedVariables false
set_option linter.unusedSimpArgs false
namespace Go.Proofs.YtabgpdpdgkgmbaaDoor.NamePure
open Go.RowKit Go.Proofs.YtabgpdpdgkgmbaaDoor.Q Go.Proofs.YtabgpdpdgkgmbaaDoor.Loop Go.Proofs.YtabgpdpdgkgmbaaDoorW.PrintWords Go.Proofs.YtabgpdpdgkgmbaaDoorW.PrintLast Go.Proofs.YtabgpdpdgkgmbaaDoor.Bytes

/-- The first name that can't be joined: its fault, its place. -/
def jfault : List ByteArray → Nat → Option (Int × Nat)
  | [], _ => none
  | x :: r, i => if i = 31 then some (61, i) else if chk (bs x) = 0 then jfault r (i + 1) else some (chk (bs x), i)
/-- The names with '/' between. -/
def joinOf (l : List ByteArray) : ByteArray := ⟨(Lib.join (l.map bs) [47]).toArray⟩
def joinRes (l : List ByteArray) : ByteArray × Int × Int := match jfault l 0 with | some (c, i) => (⟨#[]⟩, c, (i : Int)) | none => (joinOf l, 0, 0)
theorem jfault_none : ∀ (l : List ByteArray) (i : Nat), jfault l i = none → i ≤ 31 → i + l.length ≤ 31 ∧ ∀ x ∈ l, chk (bs x) = 0
  | [], i, _, hi => ⟨by simpa using hi, by simp⟩
  | x :: r, i, h, hi => by
    rw [jfault] at h
    split at h
    · cases h
    · split at h
      · obtain ⟨h1, h2⟩ := jfault_none r (i + 1) h (by omega)
        refine ⟨by simp; omega, fun y hy => ?_⟩
        rcases List.mem_cons.1 hy with rfl | hy
        · assumption
        · exact h2 y hy
      · cases h
theorem jfault_of : ∀ (l : List ByteArray) (i : Nat), i + l.length ≤ 31 → (∀ x ∈ l, chk (bs x) = 0) → jfault l i = none
  | [], i, _, _ => rfl
  | x :: r, i, h, hc => by
    rw [jfault, if_neg (by simp at h; omega), if_pos (hc x List.mem_cons_self)]
    exact jfault_of r (i + 1) (by simp at h; omega) (fun y hy => hc y (List.mem_cons_of_mem _ hy))
theorem jfault_code : ∀ (l : List ByteArray) (i : Nat) (c : Int) (j : Nat), jfault l i = some (c, j) → c ≠ 0
  | [], i, c, j, h => by cases h
  | x :: r, i, c, j, h => by
    rw [jfault] at h
    split at h
    · cases h; decide
    · split at h
      · exact jfault_code r (i + 1) c j h
      · cases h; assumption
theorem chk_len {l : List UInt8} (h : chk l = 0) : l ≠ [] ∧ l.length ≤ 255 ∧ (47 : UInt8) ∉ l := by
  unfold chk at h
  split at h
  · cases h
  · rename_i h1
    split at h
    · cases h
    · rename_i h2
      split at h
      · cases h
      · rename_i h3
        exact ⟨h1, by omega, fun e => h3 (.inl e)⟩
theorem joinTail_len (sep : List UInt8) (hsep : sep.length = 1) : ∀ (r : List ByteArray), (∀ x ∈ r, (bs x).length ≤ 255) → (Lib.joinTail sep (r.map bs)).length ≤ 256 * r.length
  | [], _ => by simp [Lib.joinTail]
  | x :: r, h => by
    have h1 := joinTail_len sep hsep r (fun y hy => h y (List.mem_cons_of_mem _ hy))
    have h2 := h x List.mem_cons_self
    simp only [Lib.joinTail, List.map_cons, List.flatten_cons, List.length_append, List.length_cons] at h1 ⊢
    omega
theorem join_len (l : List ByteArray) (h : l.length ≤ 31) (hc : ∀ x ∈ l, chk (bs x) = 0) : (Lib.join (l.map bs) [47]).length ≤ 7936 := by
  cases l with
  | nil => simp [Lib.join_nil]
  | cons x r =>
    rw [List.map_cons, Lib.join_cons, List.length_append]
    have h1 := joinTail_len [47] rfl r (fun y hy => (chk_len (hc y (List.mem_cons_of_mem _ hy))).2.1)
    have h2 := (chk_len (hc x List.mem_cons_self)).2.1
    simp at h
    omega
theorem join_l0 (l : List ByteArray) (hx : l.length ≤ 140737488355328) (d : Nat) : ∀ (i k : Nat), l.length - i = d → i ≤ l.length → d < k → (∀ j : Nat, (hj : j < l.length) → j < i → chk (bs l[j]) = 0) → i ≤ 31 →
    name_Join.l0 k l l (l.length : Int) (i : Int) = some (match jfault (l.drop i) i with | some (c, i) => (⟨#[]⟩, c, (i : Int)) | none => (joinOf l, 0, 0)) := by
  induction d with
  | zero =>
    intro i k hd hi hk hc h31
    obtain ⟨k, rfl⟩ : ∃ m, k = m + 1 := ⟨k - 1, by omega⟩
    simp only [name_Join.l0]
    rw [if_neg (by omega), List.drop_of_length_le (by omega)]
    have hcl : ∀ x ∈ l, chk (bs x) = 0 := fun x hx => by
      obtain ⟨j, hj, rfl⟩ := List.getElem_of_mem hx
      exact hc j hj (by omega)
    have e : strings_Join.f l (⟨#[47]⟩ : ByteArray) = some (joinOf l) := by
      unfold strings_Join.f
      have := join_len l (by omega) hcl
      rw [if_pos ⟨hx, by show (Lib.join (l.map bs) [47]).length ≤ _; omega⟩]
      rfl
    rw [e]
    rfl
  | succ d ih =>
    intro i k hd hi hk hc h31
    obtain ⟨k, rfl⟩ : ∃ m, k = m + 1 := ⟨k - 1, by omega⟩
    have hlt : i < l.length := by omega
    simp only [name_Join.l0]
    rw [if_pos (by omega), if_pos (by omega), if_pos (by omega), rd_nat _ _ hlt, List.drop_eq_getElem_cons hlt, jfault, name_check]
    by_cases h : i = 31
    · rw [if_pos (by omega), if_pos h]
    · rw [if_neg (by omega), if_neg h]
      simp only [Option.bind_some]
      by_cases h2 : chk (bs l[i]) = 0
      · rw [if_pos h2, if_pos h2, wr i (by omega)]
        refine ih (i + 1) k (by omega) (by omega) (by omega) (fun j hj hji => ?_) (by omega)
        rcases Nat.lt_or_ge j i with hj2 | hj2
        · exact hc j hj hj2
        · obtain rfl : j = i := by omega
          exact h2
      · rw [if_neg h2, if_neg h2]
theorem join_f (l : List ByteArray) (hx : l.length ≤ 140737488355328) (k : Nat) (hk : l.length < k) : name_Join.f k l = some (joinRes l) := by
  have := join_l0 l hx l.length 0 k (by omega) (Nat.zero_le _) hk (fun j hj h => by omega) (by omega)
  rw [List.drop_zero] at this
  exact this
end Go.Proofs.YtabgpdpdgkgmbaaDoor.NamePure
/- The example that each law asks first. -/
set_option linter.unusedVariables false
set_option linter.unusedSimpArgs false
namespace Go.Proofs.YtabgpdpdgkgmbaaDoor.NamePure
open Go.RowKit Go.Proofs.YtabgpdpdgkgmbaaDoor.Q Go.Proofs.YtabgpdpdgkgmbaaDoor.Loop Go.Proofs.YtabgpdpdgkgmbaaDoorW.PrintWords Go.Proofs.YtabgpdpdgkgmbaaDoorW.PrintLast Go.Proofs.YtabgpdpdgkgmbaaDoor.Bytes
theorem awake_f (k : Nat) (hk : 10 ≤ k) : depotlaw05_awake.f k = some true := by
  unfold depotlaw05_awake.f
  have e1 : name_Split.f (⟨#[97, 47, 98, 46, 99]⟩ : ByteArray) = some ([⟨#[97]⟩, ⟨#[98, 46, 99]⟩], 0, 0) := by
    rw [split_f _ (by decide)]
    rw [if_neg (by decide)]
    have e2 : piecesOf (⟨#[97, 47, 98, 46, 99]⟩ : ByteArray) = [⟨#[97]⟩, ⟨#[98, 46, 99]⟩] := by rfl
    rw [e2, takeNames, if_neg (by decide), if_pos (by decide), takeNames, if_neg (by decide), if_pos (by decide), takeNames]
    rfl
  have e3 : name_Join.f k [(⟨#[97]⟩ : ByteArray), (⟨#[98, 46, 99]⟩ : ByteArray)] = some (⟨#[97, 47, 98, 46, 99]⟩, 0, 0) := by
    rw [join_f _ (by decide) _ (by simp; omega)]
    have e4 : jfault [(⟨#[97]⟩ : ByteArray), (⟨#[98, 46, 99]⟩ : ByteArray)] 0 = none := by decide
    unfold joinRes
    rw [e4]
    rfl
  rw [e1, e3]
  simp only [Option.bind_some, toList_bs]
  rfl
end Go.Proofs.YtabgpdpdgkgmbaaDoor.NamePure
/- Split and Join undo one another, in plain words. -/
set_option linter.unusedVariables false
set_option linter.unusedSimpArgs false
namespace Go.Proofs.YtabgpdpdgkgmbaaDoor.NamePure
open Go.RowKit Go.Proofs.YtabgpdpdgkgmbaaDoor.Q Go.Proofs.YtabgpdpdgkgmbaaDoor.Loop Go.Proofs.YtabgpdpdgkgmbaaDoorW.PrintWords Go.Proofs.YtabgpdpdgkgmbaaDoorW.PrintLast Go.Proofs.YtabgpdpdgkgmbaaDoor.Bytes

/-- What Split answers. -/
def splitRes (a : ByteArray) : List ByteArray × Int × Int := if bs a = [] then ([], 0, 0) else takeNames (piecesOf a) [] 0
theorem split_res (a : ByteArray) (h : a.size ≤ 140737488355328) : name_Split.f a = some (splitRes a) := split_f a h

theorem join_cut (c : UInt8) : ∀ (l : List UInt8), Lib.join (cutAt c l) [c] = l
  | [] => by simp [cutAt, Lib.join_one]
  | x :: r => by
    have ih := join_cut c r
    rw [cutAt_cons]
    split
    · rename_i h
      subst h
      cases hc : cutAt x r with
      | nil => exact absurd hc (cutAt_ne x r)
      | cons y t =>
        rw [hc, Lib.join_cons] at ih
        rw [Lib.join_cons]
        simp only [Lib.joinTail, List.map_cons, List.flatten_cons, List.nil_append, List.singleton_append, List.cons_append]
        simp only [Lib.joinTail, List.singleton_append] at ih
        rw [ih]
    · cases hc : cutAt c r with
      | nil => exact absurd hc (cutAt_ne c r)
      | cons y t =>
        rw [hc, Lib.join_cons] at ih
        simp only
        rw [Lib.join_cons, List.cons_append, ih]
theorem cut_join (c : UInt8) : ∀ (x : List UInt8) (r : List (List UInt8)), (∀ y ∈ x :: r, c ∉ y) → cutAt c (Lib.join (x :: r) [c]) = x :: r
  | x, [], h => by rw [Lib.join_one]; exact cutAt_none c x (h x List.mem_cons_self)
  | x, y :: t, h => by
    have ih := cut_join c y t (fun z hz => h z (List.mem_cons_of_mem _ hz))
    rw [Lib.join_cons] at ih
    rw [Lib.join_cons]
    simp only [Lib.joinTail, List.map_cons, List.flatten_cons, List.singleton_append, List.cons_append] at ih ⊢
    rw [cutAt_some c x _ (h x List.mem_cons_self), List.nil_append, ih]

theorem takes_ok : ∀ (ps acc : List ByteArray) (p : Int), acc.length ≤ 31 → (takeNames ps acc p).2.1 = 0 → (takeNames ps acc p).1 = acc ++ ps ∧ (acc ++ ps).length ≤ 31 ∧ (takeNames ps acc p).2.2 = 0 ∧ ∀ x ∈ ps, chk (bs x) = 0
  | [], acc, p, h, _ => ⟨by simp [takeNames], by simpa using h, rfl, by simp⟩
  | x :: r, acc, p, h, hz => by
    rw [takeNames] at hz ⊢
    by_cases h1 : acc.length = 31
    · rw [if_pos h1] at hz; cases hz
    · rw [if_neg h1] at hz ⊢
      by_cases h2 : chk (bs x) = 0
      · rw [if_pos h2] at hz ⊢
        obtain ⟨a1, a2, a3, a4⟩ := takes_ok r (acc ++ [x]) _ (by simp; omega) hz
        refine ⟨by rw [a1]; simp, by simpa using a2, a3, fun y hy => ?_⟩
        rcases List.mem_cons.1 hy with rfl | hy
        · exact h2
        · exact a4 y hy
      · rw [if_neg h2] at hz; exact absurd hz h2
theorem takes_bad : ∀ (ps acc : List ByteArray) (p : Int), (takeNames ps acc p).2.1 ≠ 0 → (takeNames ps acc p).1 = []
  | [], acc, p, hz => absurd rfl hz
  | x :: r, acc, p, hz => by
    rw [takeNames] at hz ⊢
    split
    · rfl
    · rename_i h1
      rw [if_neg h1] at hz
      split
      · rename_i h2
        rw [if_pos h2] at hz
        exact takes_bad r _ _ hz
      · rfl
theorem map_pieces (a : ByteArray) : (piecesOf a).map bs = cutAt 47 (bs a) := by
  unfold piecesOf
  rw [List.map_map]
  conv => rhs; rw [← List.map_id (cutAt 47 (bs a))]
  exact List.map_congr_left fun x _ => bs_mk x
/-- What Split takes: its names are right, at most 31, and joined they are the path. -/
structure SplitOk (a : ByteArray) (l : List ByteArray) : Prop where
  len : l.length ≤ 31
  chk : ∀ x ∈ l, chk (bs x) = 0
  join : Lib.join (l.map bs) [47] = bs a
  nil : l = [] ↔ bs a = []
theorem split_ok (a : ByteArray) (h : (splitRes a).2.1 = 0) : SplitOk a (splitRes a).1 ∧ (splitRes a).2.2 = 0 := by
  unfold splitRes at h ⊢
  by_cases hb : bs a = []
  · rw [if_pos hb]
    exact ⟨⟨by simp, by simp, by rw [hb]; rfl, by simp [hb]⟩, rfl⟩
  · rw [if_neg hb] at h ⊢
    obtain ⟨a1, a2, a3, a4⟩ := takes_ok (piecesOf a) [] 0 (by simp) h
    rw [List.nil_append] at a1 a2
    rw [a1]
    refine ⟨⟨a2, a4, by rw [map_pieces]; exact join_cut 47 _, ?_⟩, a3⟩
    constructor
    · intro e
      have := map_pieces a
      rw [e] at this
      exact absurd this.symm (cutAt_ne _ _)
    · intro e; exact absurd e hb
theorem split_bad (a : ByteArray) (h : (splitRes a).2.1 ≠ 0) : (splitRes a).1 = [] := by
  unfold splitRes at h ⊢
  by_cases hb : bs a = []
  · rw [if_pos hb]
  · rw [if_neg hb] at h ⊢
    exact takes_bad _ _ _ h
theorem bs_joinOf (l : List ByteArray) : bs (joinOf l) = Lib.join (l.map bs) [47] := bs_mk _
theorem join_ok {a : ByteArray} {l : List ByteArray} (h : SplitOk a l) : joinRes l = (joinOf l, 0, 0) ∧ bs (joinOf l) = bs a := by
  refine ⟨?_, by rw [bs_joinOf, h.join]⟩
  unfold joinRes
  rw [jfault_of l 0 (by have := h.len; omega) h.chk]
/-- Right names, joined and split again. -/
theorem split_join (l : List ByteArray) (hl : l.length ≤ 31) (hc : ∀ x ∈ l, chk (bs x) = 0) : splitRes (joinOf l) = (l, 0, 0) := by
  unfold splitRes
  cases l with
  | nil => rw [if_pos (by rw [bs_joinOf]; rfl)]
  | cons x r =>
    have hx := chk_len (hc x List.mem_cons_self)
    rw [if_neg (by
      rw [bs_joinOf, List.map_cons, Lib.join_cons]
      intro e
      exact hx.1 (List.append_eq_nil_iff.1 e).1)]
    have hp : piecesOf (joinOf (x :: r)) = x :: r := pieces_of (by
      rw [bs_joinOf, List.map_cons]
      exact (cut_join 47 (bs x) (r.map bs) (fun y hy => by
        rw [← List.map_cons (f := bs)] at hy
        obtain ⟨z, hz, rfl⟩ := List.mem_map.1 hy
        exact (chk_len (hc z hz)).2.2)).symm)
    have := take_taken (pre := x :: r) ⟨hl, hc⟩ []
    rw [List.append_nil] at this
    rw [hp, this, takeNames]
theorem joinOf_size (l : List ByteArray) (hl : l.length ≤ 31) (hc : ∀ x ∈ l, chk (bs x) = 0) : (joinOf l).size ≤ 7936 := by
  rw [size_bs, bs_joinOf]
  exact join_len l hl hc
theorem row_len {l : List ByteArray} {b : Nat} (hb : b = 16) (h : ∀ n ∈ (l.length * b :: l.flatMap (fun y => [y.size])), n ≤ 140737488351232) : l.length ≤ 8796093021952 ∧ ∀ y ∈ l, (bs y).length ≤ 140737488351232 := by
  subst hb
  refine ⟨?_, fun y hy => ?_⟩
  · have := h _ List.mem_cons_self
    omega
  · rw [← size_bs]
    exact h _ (List.mem_cons_of_mem _ (List.mem_flatMap.2 ⟨y, hy, by simp⟩))
theorem bytes_str : Tryd.prog.bytesOf 9 = 16 := by kernel_rfl
end Go.Proofs.YtabgpdpdgkgmbaaDoor.NamePure
/- NameJoins, the plain law. -/
set_option linter.unusedVariables false
set_option linter.unusedSimpArgs false
namespace Go.Proofs.YtabgpdpdgkgmbaaDoor.Pure
open Go.RowKit Go.Proofs.YtabgpdpdgkgmbaaDoor.Q Go.Proofs.YtabgpdpdgkgmbaaDoor.Loop Go.Proofs.YtabgpdpdgkgmbaaDoorW.PrintWords Go.Proofs.YtabgpdpdgkgmbaaDoorW.PrintLast Go.Proofs.YtabgpdpdgkgmbaaDoor.Bytes Go.Proofs.YtabgpdpdgkgmbaaDoor.NamePure Go.Proofs.YtabgpdpdgkgmbaaDoor.Ord

theorem join_snoc (sep y : List UInt8) : ∀ (xs : List (List UInt8)), xs ≠ [] → Lib.join (xs ++ [y]) sep = (Lib.join xs sep ++ sep) ++ y
  | [], h => absurd rfl h
  | x :: r, _ => by
    rw [List.cons_append, Lib.join_cons, Lib.join_cons]
    simp [Lib.joinTail]
theorem ref_join (l : List ByteArray) (M : Nat) (hM : ∀ x ∈ l, (bs x).length ≤ M) (hMx : M ≤ 140737488351232) (hx : l.length ≤ 8796093021952) (d : Nat) : ∀ (i k : Nat) (path : ByteArray), l.length - i = d → i ≤ l.length → i ≤ 31 → d + 2 * M + 3 ≤ k →
    (∀ j : Nat, (hj : j < l.length) → j < i → chk (bs l[j]) = 0) → bs path = Lib.join ((l.take i).map bs) [47] →
    depotref05_Join.l0 k l path (i : Int) = some (match jfault (l.drop i) i with | some (c, i) => (⟨#[]⟩, c, (i : Int)) | none => (joinOf l, 0, 0)) := by
  induction d with
  | zero =>
    intro i k path hd hi h31 hk hc hp
    obtain ⟨k, rfl⟩ : ∃ m, k = m + 1 := ⟨k - 1, by omega⟩
    simp only [depotref05_Join.l0]
    rw [if_neg (by omega), List.drop_of_length_le (by omega)]
    have e : path = joinOf l := bs_inj (by rw [hp, bs_joinOf, List.take_of_length_le (by omega)])
    rw [e]
    rfl
  | succ d ih =>
    intro i k path hd hi h31 hk hc hp
    obtain ⟨k, rfl⟩ : ∃ m, k = m + 1 := ⟨k - 1, by omega⟩
    have hlt : i < l.length := by omega
    have hMi := hM _ (List.getElem_mem hlt)
    simp only [depotref05_Join.l0]
    rw [if_pos (by omega), if_pos (show (0 : Int) ≤ (i : Int) by omega), rd_nat _ _ hlt, List.drop_eq_getElem_cons hlt, jfault]
    by_cases h : i = 31
    · rw [if_pos (by omega), if_pos h]
    · rw [if_neg (by omega), if_neg h, ref_check _ (by omega) k (by omega)]
      simp only [Option.bind_some]
      by_cases h2 : chk (bs l[i]) = 0
      · have hct : ∀ x ∈ l.take i, chk (bs x) = 0 := fun x hx => by
          obtain ⟨j, hj, rfl⟩ := List.getElem_of_mem hx
          rw [List.length_take] at hj
          rw [List.getElem_take]
          exact hc j (by omega) (by omega)
        have hps : path.size ≤ 7936 := by
          rw [size_bs, hp]
          exact join_len (l.take i) (by rw [List.length_take]; omega) hct
        have hls := (chk_len h2).2.1
        rw [← size_bs] at hls
        have hc' : ∀ j : Nat, (hj : j < l.length) → j < i + 1 → chk (bs l[j]) = 0 := fun j hj hji => by
          rcases Nat.lt_or_ge j i with hj2 | hj2
          · exact hc j hj hj2
          · obtain rfl : j = i := by omega
            exact h2
        have et : (l.take (i + 1)).map bs = (l.take i).map bs ++ [bs l[i]] := by rw [List.take_succ_eq_append_getElem hlt, List.map_append]; rfl
        rw [if_pos h2, if_pos h2]
        by_cases h0 : 0 < i
        · have hsz : (path ++ (⟨#[47]⟩ : ByteArray)).size = path.size + 1 := by rw [size_bs, bs_append, List.length_append, ← size_bs]; rfl
          rw [if_pos (show (i : Int) > 0 by omega), if_pos (show path.size + 1 ≤ 9223372036854775807 by omega), if_pos (show (path ++ (⟨#[47]⟩ : ByteArray)).size + l[i].size ≤ 9223372036854775807 by rw [hsz]; omega), wr i (by omega)]
          refine ih (i + 1) k _ (by omega) (by omega) (by omega) (by omega) hc' ?_
          rw [et, join_snoc _ _ _ (fun e => by have := congrArg List.length e; rw [List.length_map, List.length_take, List.length_nil] at this; omega), bs_append, bs_append, hp]
          rfl
        · obtain rfl : i = 0 := by omega
          rw [if_neg (show ¬ ((0 : Nat) : Int) > 0 by omega), if_pos (show path.size + l[0].size ≤ 9223372036854775807 by omega), wr 0 (by omega)]
          refine ih (0 + 1) k _ (by omega) (by omega) (by omega) (by omega) hc' ?_
          rw [et, bs_append, hp]
          simp [Lib.join_nil, Lib.join_one]
      · rw [if_neg h2, if_neg h2]
theorem wl (i : Nat) (h1 : 1 ≤ i) (h : i ≤ 9223372036854775807) : wrap64 ((i : Int) - 1) = ((i - 1 : Nat) : Int) := by rw [w64 (by omega) (by omega)]; omega
theorem sorted_same (l : List ByteArray) (M : Nat) (hM : ∀ x ∈ l, (bs x).length ≤ M) (hMx : M ≤ 140737488351232) (hx : l.length ≤ 8796093021952) (d : Nat) : ∀ (i k : Nat), l.length - i = d → 1 ≤ i → d + 3 * M + 4 ≤ k →
    ∃ r, name_Sorted.l0 k l (i : Int) = some r ∧ depotref05_Sorted.l0 k l (i : Int) = some r := by
  induction d with
  | zero =>
    intro i k hd hi hk
    obtain ⟨k, rfl⟩ : ∃ m, k = m + 1 := ⟨k - 1, by omega⟩
    refine ⟨-1, ?_, ?_⟩
    · simp only [name_Sorted.l0]
      rw [if_neg (by omega)]
    · simp only [depotref05_Sorted.l0]
      rw [if_neg (by omega)]
  | succ d ih =>
    intro i k hd hi hk
    obtain ⟨k, rfl⟩ : ∃ m, k = m + 1 := ⟨k - 1, by omega⟩
    have hlt : i < l.length := by omega
    have hlt1 : i - 1 < l.length := by omega
    have m1 := hM _ (List.getElem_mem hlt)
    have m2 := hM _ (List.getElem_mem hlt1)
    have e1 : name_Sorted.l0 (k + 1) l (i : Int) = if Op.bytesLess (bs l[i - 1]) (bs l[i]) = true then name_Sorted.l0 k l ((i + 1 : Nat) : Int) else some (i : Int) := by
      simp only [name_Sorted.l0]
      rw [wl i hi (by omega), wr i (by omega), if_pos (by omega), if_pos (by omega), if_pos (by omega), if_pos (by omega), rd_nat _ _ hlt, rd_nat _ _ hlt1, toList_bs, toList_bs]
    have e2 : depotref05_Sorted.l0 (k + 1) l (i : Int) = if Lib.compareBytes (bs l[i - 1]) (bs l[i]) = -1 then depotref05_Sorted.l0 k l ((i + 1 : Nat) : Int) else some (i : Int) := by
      simp only [depotref05_Sorted.l0]
      rw [wl i hi (by omega), wr i (by omega), if_pos (by omega), if_pos (by omega), if_pos (by omega), if_pos (by omega), rd_nat _ _ hlt, rd_nat _ _ hlt1, ref_compare _ _ (by omega) (by omega) k (by omega)]
      rfl
    rw [e1, e2]
    by_cases h : Op.bytesLess (bs l[i - 1]) (bs l[i]) = true
    · rw [if_pos h, if_pos ((compare_less _ _).1 h)]
      exact ih (i + 1) k (by omega) (by omega) (by omega)
    · rw [if_neg h, if_neg (fun e => h ((compare_less _ _).2 e))]
      exact ⟨_, rfl, rfl⟩
theorem ba_sorted (k : Nat) : name_Sorted.f (k + 1) [(⟨#[98]⟩ : ByteArray), (⟨#[97]⟩ : ByteArray)] = some 1 := by
  have e1 : rdOf ByteArray.empty [(⟨#[98]⟩ : ByteArray), (⟨#[97]⟩ : ByteArray)] 1 = ⟨#[97]⟩ := rfl
  have e2 : rdOf ByteArray.empty [(⟨#[98]⟩ : ByteArray), (⟨#[97]⟩ : ByteArray)] 0 = ⟨#[98]⟩ := rfl
  have e3 : wrap64 (1 - 1) = 0 := by rw [w64 (by decide) (by decide)]; rfl
  unfold name_Sorted.f name_Sorted.l0
  rw [e3, e1, e2, toList_bs, toList_bs, if_pos (by decide), if_pos (by decide), if_pos (by decide), if_pos (by decide), if_neg (by decide)]
theorem joins_all (l : List ByteArray) (M : Nat) (hM : ∀ x ∈ l, (bs x).length ≤ M) (hMx : M ≤ 140737488351232) (hl1 : l.length ≤ 8796093021952) (k : Nat) (hk : l.length + 3 * M + 100 ≤ k) : depotlaw05_NameJoins.f (k + 1) l = some true := by
  unfold depotlaw05_NameJoins.f
  rw [awake_f _ (by omega), ba_sorted]
  simp only [Option.bind_some, if_true]
  simp only [depotlaw05_NameJoins.j0]
  rw [if_neg (by decide), join_f l (by omega) k (by omega)]
  have hr : depotref05_Join.f k l = some (joinRes l) := by
    have := ref_join l M hM hMx hl1 l.length 0 k (⟨#[]⟩ : ByteArray) (by omega) (by omega) (by omega) (by omega) (fun j _ h => by omega) rfl
    rw [List.drop_zero] at this
    exact this
  rw [hr]
  simp only [Option.bind_some, if_true]
  obtain ⟨r, e1, e2⟩ := sorted_same l M hM hMx hl1 (l.length - 1) 1 k rfl (by omega) (by omega)
  have f1 : name_Sorted.f k l = some r := e1
  have f2 : depotref05_Sorted.f k l = some r := e2
  rw [f1, f2]
  simp
theorem NameJoins : depotlaw05_NameJoins.Pure := by
  intro l hl _
  obtain ⟨hl1, hM⟩ := row_len bytes_str hl
  exact ⟨_, joins_all l _ hM (Nat.le_refl _) hl1 _ (Nat.le_refl _)⟩
end Go.Proofs.YtabgpdpdgkgmbaaDoor.Pure
/- What came in, opened by its kind: a reading of a value ys data gives the Lean value of the print's kinds, with its sizes. For rows over slices and structs. -/
set_option linter.unusedVariables false
set_option linter.unusedSimpArgs false
namespace Go.Proofs.YtabgpdpdgkgmbaaDoor.Opens
open Go.RowKit Go.Deep Go.Proofs.YtabgpdpdgkgmbaaDoorW.PrintWords

section
variable {α β : Type}
/-- A reading at type t gives a value of kind d: its cells (K), its weights (each no more than one of the datum's, or 0), its bulk, and what is good about its numbers. -/
structure Opens (P : Program) (t : TypeId) (d : Kd α) (Wt : α → List Nat) (Bk : α → Nat) (Gd : α → Prop) : Prop where
  sz : P.cellsOf t = d.sz
  out : ∀ {H : Type} {enc : TypeId × Value → H} {w : World} {base : Nat} {spare : Nat → Bool} {held : Bool} {fuel : Nat} {cs : List Value} {x : DataW H × List MemPlace},
    DataW.trod enc P w base spare held fuel t cs = some x → ∃ a, d.K w a cs ∧ (∀ n ∈ Wt a, n = 0 ∨ ∃ m ∈ x.1.weights P t, n ≤ m) ∧ Bk a ≤ Rows.uptoBulk x.1 ∧ Gd a

variable {P : Program} {t : TypeId}
theorem opens_string (ht : P.underlying t = some .string) (hs : P.cellsOf t = 1) : Opens P t Kd.string (fun s => [s.size]) (fun s => s.size + 1) (fun s => s.size ≤ maxLen) := by
  refine ⟨hs, fun {H enc w base spare held fuel cs x} h => ?_⟩
  obtain ⟨s, rfl, rfl, hw⟩ := DataW.trod_string ht h
  refine ⟨s, rfl, ?_, ?_, hw⟩
  · intro n hn
    rw [List.mem_singleton] at hn
    refine .inr ⟨s.data.toList.length, by rw [DataW.weights]; exact List.mem_singleton.2 rfl, ?_⟩
    rw [hn, Array.length_toList]
    exact Nat.le_refl _
  · rw [Rows.uptoBulk, Array.length_toList]
    exact Nat.le_refl _
theorem opens_bool (ht : P.underlying t = some .bool) (hs : P.cellsOf t = 1) : Opens P t Kd.bool (fun _ => []) (fun _ => 1) (fun _ => True) := by
  refine ⟨hs, fun {H enc w base spare held fuel cs x} h => ?_⟩
  obtain ⟨b, rfl, rfl⟩ := DataW.trod_bool ht h
  exact ⟨b, rfl, fun _ h => absurd h (by simp), by rw [Rows.uptoBulk] <;> simp, trivial⟩
theorem opens_int {k : IntKind} (ht : P.underlying t = some (.int k)) (hs : P.cellsOf t = 1) : Opens P t (Kd.int k) (fun _ => []) (fun _ => 1) (fun n => (Lit.int k n).wf = true) := by
  refine ⟨hs, fun {H enc w base spare held fuel cs x} h => ?_⟩
  obtain ⟨n, rfl, rfl, hw⟩ := DataW.trod_int ht h
  exact ⟨n, rfl, fun _ h => absurd h (by simp), by rw [Rows.uptoBulk] <;> simp, hw⟩

theorem list_of {Q : Nat → α → Prop} : ∀ (n : Nat), (∀ i, i < n → ∃ a, Q i a) → ∃ ys : List α, ys.length = n ∧ ∀ i a, ys[i]? = some a → Q i a
  | 0, _ => ⟨[], rfl, fun i a h => by simp at h⟩
  | n + 1, h => by
    obtain ⟨ys, hl, hq⟩ := list_of n (fun i hi => h i (by omega))
    obtain ⟨a, ha⟩ := h n (by omega)
    refine ⟨ys ++ [a], by simp [hl], fun i b hb => ?_⟩
    rcases Nat.lt_or_ge i n with hi | hi
    · rw [List.getElem?_append_left (by omega)] at hb
      exact hq i b hb
    · have : i < (ys ++ [a]).length := (List.getElem?_eq_some_iff.1 hb).1
      simp [hl] at this
      have e : i = n := by omega
      subst e
      rw [List.getElem?_append_right (by omega), hl, Nat.sub_self] at hb
      simp at hb
      subst hb
      exact ha
theorem sum_le_range (ys : List α) (Bk : α → Nat) (b : Nat → Nat) (h : ∀ i a, ys[i]? = some a → Bk a ≤ b i) : (ys.map Bk).sum ≤ ((List.range ys.length).map b).sum := by
  induction ys generalizing b with
  | nil => simp
  | cons a ys ih =>
    have h0 := h 0 a rfl
    have h1 := ih (fun i => b (i + 1)) (fun i a ha => h (i + 1) a (by simpa using ha))
    rw [List.length_cons, List.range_succ_eq_map, List.map_cons, List.sum_cons, List.map_cons, List.sum_cons, List.map_map]
    have e : (List.map (b ∘ Nat.succ) (List.range ys.length)) = List.map (fun i => b (i + 1)) (List.range ys.length) := rfl
    rw [e]
    omega
theorem bulkAll_sum {H : Type} (l : List (DataW H)) : Rows.uptoBulkAll l = (l.map Rows.uptoBulk).sum := by
  induction l with
  | nil => rfl
  | cons d l ih => rw [Rows.uptoBulkAll, ih, List.map_cons, List.sum_cons]
theorem weightsAll_mem {H : Type} {e : TypeId} : ∀ (l : List (DataW H)) (d : DataW H), d ∈ l → ∀ m ∈ d.weights P e, m ∈ DataW.weightsAll P e l
  | [], d, h => absurd h (by simp)
  | d' :: l, d, h => by
    intro m hm
    rw [DataW.weightsAll, List.mem_append]
    rcases List.mem_cons.1 h with rfl | h
    · exact .inl hm
    · exact .inr (weightsAll_mem l d h m hm)

theorem opens_slice {e : TypeId} {d : Kd α} {Wt : α → List Nat} {Bk : α → Nat} {Gd : α → Prop} (ht : P.underlying t = some (.slice e)) (hs : P.cellsOf t = 1) (he : Opens P e d Wt Bk Gd) :
    Opens P t (Kd.slice e d) (fun xs => (xs.length * P.bytesOf e) :: xs.flatMap Wt) (fun xs => (xs.map Bk).sum + 1) (fun xs => xs.length ≤ maxLen ∧ ∀ x ∈ xs, Gd x) := by
  refine ⟨hs, fun {H enc w base spare held fuel cs x} h => ?_⟩
  rcases open_slice ht h with ⟨rfl, rfl⟩ | ⟨a, len, cap, m, n, D, Pl, rfl, hb, hl, hm, hmm, rfl, hx⟩
  · exact ⟨[], ⟨none, 0, rfl, Nat.le_refl _, Kd.C_nil d w⟩, fun n hn => .inl (by simpa using hn), by rw [Rows.uptoBulk]; simp, by simp, by simp⟩
  · have hlm : len ≤ m := by rw [hmm]; split <;> omega
    have each : ∀ i, i < len → ∃ b : α, (∃ cs', w.cells? base (a.add (i * P.cellsOf e)) (P.cellsOf e) = some cs' ∧ d.K w b cs') ∧ (∀ q ∈ Wt b, q = 0 ∨ ∃ r ∈ (D i).weights P e, q ≤ r) ∧ Bk b ≤ Rows.uptoBulk (D i) ∧ Gd b := by
      intro i hi
      obtain ⟨cs', h1, h2⟩ := hx i (by omega)
      obtain ⟨b, hK, hw, hk, hg⟩ := he.out h2
      exact ⟨b, ⟨cs', h1, hK⟩, hw, hk, hg⟩
    obtain ⟨ys, hal, has⟩ := list_of len each
    subst hal
    refine ⟨ys, ⟨some a, cap, rfl, hl, rfl, by unfold maxLen at hm; omega, fun hp => ⟨a, rfl, fun j p hj => ?_⟩⟩, ?_, ?_, by omega, ?_⟩
    · obtain ⟨⟨cs', h1, hK⟩, _⟩ := has j p hj
      refine ⟨cs', d.K_len hK, hK, fun i u hu => ?_⟩
      have hc := World.cells?_some h1
      rw [he.sz] at hc
      obtain ⟨hc0, hc1, hc2⟩ := hc
      have hi : i < d.sz := by rw [← d.K_len hK]; exact (List.getElem?_eq_some_iff.1 hu).1
      have := hc2 i (by omega)
      rw [hu] at this
      rw [Go.Deep.add_add] at this
      exact this
    · intro q hq
      rw [List.mem_cons, List.mem_flatMap] at hq
      have hwt : (DataW.slice ((List.range ys.length).map D) ((List.range (m - ys.length)).map fun j => D (ys.length + j)) : DataW H).weights P t = (((List.range ys.length).map D).length + ((List.range (m - ys.length)).map fun j => D (ys.length + j)).length) * P.bytesOf e :: (DataW.weightsAll P e ((List.range ys.length).map D) ++ DataW.weightsAll P e ((List.range (m - ys.length)).map fun j => D (ys.length + j))) := by
        rw [DataW.weights, ht]
      show q = 0 ∨ ∃ r ∈ (DataW.slice ((List.range ys.length).map D) ((List.range (m - ys.length)).map fun j => D (ys.length + j)) : DataW H).weights P t, q ≤ r
      rw [hwt]
      rcases hq with rfl | ⟨b, hbm, hq⟩
      · refine .inr ⟨_, List.mem_cons_self, ?_⟩
        refine Nat.mul_le_mul_right _ ?_
        simp
      · obtain ⟨i, hi⟩ := List.getElem?_of_mem hbm
        have hil : i < ys.length := (List.getElem?_eq_some_iff.1 hi).1
        obtain ⟨_, hw, _⟩ := has i b hi
        rcases hw q hq with h0 | ⟨r, hr, hqr⟩
        · exact .inl h0
        · exact .inr ⟨r, List.mem_cons_of_mem _ (List.mem_append_left _ (weightsAll_mem _ (D i) (List.mem_map.2 ⟨i, List.mem_range.2 hil, rfl⟩) r hr)), hqr⟩
    · show _ ≤ Rows.uptoBulk (DataW.slice ((List.range ys.length).map D) ((List.range (m - ys.length)).map fun j => D (ys.length + j)) : DataW H)
      rw [Rows.uptoBulk, bulkAll_sum, List.map_map]
      have := sum_le_range ys Bk (fun i => Rows.uptoBulk (D i)) (fun i b hb => (has i b hb).2.2.1)
      have e2 : (List.map (Rows.uptoBulk ∘ D) (List.range ys.length)) = List.map (fun i => Rows.uptoBulk (D i)) (List.range ys.length) := rfl
      rw [e2]
      omega
    · intro b hbm
      obtain ⟨i, hi⟩ := List.getElem?_of_mem hbm
      exact (has i b hi).2.2.2

/-- Fields, from a place on. -/
structure OpensF (P : Program) (fs : List Field) (off : Nat) (d : Kd α) (Wt : α → List Nat) (Bk : α → Nat) (Gd : α → Prop) : Prop where
  out : ∀ {H : Type} {enc : TypeId × Value → H} {w : World} {base : Nat} {spare : Nat → Bool} {held : Bool} {fuel : Nat} {cs : List Value} {xs : List (DataW H × List MemPlace)},
    cs.length = off + d.sz → xs.length = fs.length → (∀ (i : Nat) (f : Field), fs[i]? = some f → DataW.trod enc P w base spare held fuel f.type ((cs.drop f.offset).take (P.cellsOf f.type)) = xs[i]?) →
    ∃ a, d.K w a (cs.drop off) ∧ (∀ n ∈ Wt a, n = 0 ∨ ∃ m ∈ DataW.weightsEach P (fs.map (·.type)) (xs.map (·.1)), n ≤ m) ∧ Bk a ≤ Rows.uptoBulkAll (xs.map (·.1)) ∧ Gd a
theorem opensF_one {f : Field} {off : Nat} {d : Kd α} {Wt : α → List Nat} {Bk : α → Nat} {Gd : α → Prop} (ho : f.offset = off) (he : Opens P f.type d Wt Bk Gd) : OpensF P [f] off d Wt Bk Gd := by
  refine ⟨fun {H enc w base spare held fuel cs xs} hc hl h => ?_⟩
  match xs, hl with
  | [x], _ =>
    have h0 := h 0 f rfl
    rw [ho, he.sz, List.take_of_length_le (by rw [List.length_drop]; omega)] at h0
    obtain ⟨a, hK, hw, hb, hg⟩ := he.out h0
    refine ⟨a, hK, fun n hn => ?_, ?_, hg⟩
    · rcases hw n hn with h | ⟨m, hm, hle⟩
      · exact .inl h
      · refine .inr ⟨m, ?_, hle⟩
        simp only [List.map_cons, List.map_nil, DataW.weightsEach, List.append_nil]
        exact hm
    · simp only [List.map_cons, List.map_nil, Rows.uptoBulkAll]
      omega
theorem opensF_cons {f : Field} {fs : List Field} {off : Nat} {d : Kd α} {d' : Kd β} {Wt : α → List Nat} {Bk : α → Nat} {Gd : α → Prop} {Wt' : β → List Nat} {Bk' : β → Nat} {Gd' : β → Prop}
    (ho : f.offset = off) (he : Opens P f.type d Wt Bk Gd) (hr : OpensF P fs (off + d.sz) d' Wt' Bk' Gd') :
    OpensF P (f :: fs) off (Kd.pair d d') (fun x => Wt x.1 ++ Wt' x.2) (fun x => Bk x.1 + Bk' x.2) (fun x => Gd x.1 ∧ Gd' x.2) := by
  refine ⟨fun {H enc w base spare held fuel cs xs} hc hl h => ?_⟩
  have hsz : (Kd.pair d d').sz = d.sz + d'.sz := rfl
  rw [hsz] at hc
  match xs, hl with
  | x :: xs, hl =>
    have h0 := h 0 f rfl
    rw [ho, he.sz] at h0
    obtain ⟨a, hK, hw, hb, hg⟩ := he.out h0
    obtain ⟨b, hK', hw', hb', hg'⟩ := hr.out (enc := enc) (w := w) (base := base) (spare := spare) (held := held) (fuel := fuel) (cs := cs) (xs := xs) (by omega) (by simpa using hl) (fun i f' hf => by simpa using h (i + 1) f' (by simpa using hf))
    refine ⟨(a, b), ⟨(cs.drop off).take d.sz, cs.drop (off + d.sz), ?_, hK, hK'⟩, fun n hn => ?_, ?_, hg, hg'⟩
    · rw [← List.drop_drop, List.take_append_drop]
    · simp only [List.map_cons, DataW.weightsEach, List.mem_append]
      rcases List.mem_append.1 hn with hn | hn
      · rcases hw n hn with h | ⟨m, hm, hle⟩
        · exact .inl h
        · exact .inr ⟨m, .inl hm, hle⟩
      · rcases hw' n hn with h | ⟨m, hm, hle⟩
        · exact .inl h
        · exact .inr ⟨m, .inr hm, hle⟩
    · simp only [List.map_cons, Rows.uptoBulkAll]
      omega
theorem opens_struct {fs : Array Field} {d : Kd α} {Wt : α → List Nat} {Bk : α → Nat} {Gd : α → Prop} (ht : P.underlying t = some (.struct fs)) (hs : P.cellsOf t = d.sz) (he : OpensF P fs.toList 0 d Wt Bk Gd) :
    Opens P t d Wt (fun a => Bk a + 1) Gd := by
  refine ⟨hs, fun {H enc w base spare held fuel cs x} h => ?_⟩
  obtain ⟨xs, n, rfl, rfl, hl, hl2, hx⟩ := DataW.trod_struct ht h
  obtain ⟨a, hK, hw, hb, hg⟩ := he.out (enc := enc) (w := w) (base := base) (spare := spare) (held := held) (fuel := n) (cs := cs) (xs := xs) (by omega) (by simpa using hl2) (fun i f hf => hx i f (by simpa using hf))
  refine ⟨a, by simpa using hK, fun n hn => ?_, ?_, hg⟩
  · rcases hw n hn with h | ⟨m, hm, hle⟩
    · exact .inl h
    · refine .inr ⟨m, ?_, hle⟩
      show m ∈ (DataW.agg (xs.map (·.1))).weights P t
      rw [DataW.weights, ht]
      exact hm
  · show _ ≤ Rows.uptoBulk (DataW.agg (xs.map (·.1)))
    rw [Rows.uptoBulk]
    omega
theorem opens_iso {d : Kd α} {Wt : α → List Nat} {Bk : α → Nat} {Gd : α → Prop} (f : β → α) (g : α → β) (hfg : ∀ a, f (g a) = a) (h : Opens P t d Wt Bk Gd) : Opens P t (Kd.iso d f) (fun b => Wt (f b)) (fun b => Bk (f b)) (fun b => Gd (f b)) := by
  refine ⟨h.sz, fun {H enc w base spare held fuel cs x} hx => ?_⟩
  obtain ⟨a, hK, hw, hb, hg⟩ := h.out hx
  refine ⟨g a, ?_, ?_, ?_, ?_⟩
  · show d.K w (f (g a)) cs
    rw [hfg]; exact hK
  · rw [hfg]; exact hw
  · rw [hfg]; exact hb
  · rw [hfg]; exact hg

/-- At an argument: its weights are within the reach. -/
theorem arg {H : Type} {enc : TypeId × Value → H} {w : World} {base : Nat} {spare : Nat → Bool} {held : Bool} {v : Value} {dd : DataW H} {ps : List MemPlace} {d : Kd α} {Wt : α → List Nat} {Bk : α → Nat} {Gd : α → Prop} (h : Opens P t d Wt Bk Gd)
    (hx : DataW.Trod enc P w base spare held t v dd ps) : ∃ a, d.K w a v.cells.toList ∧ (∀ n ∈ Wt a, n = 0 ∨ ∃ m ∈ dd.weights P t, n ≤ m) ∧ Bk a ≤ Rows.uptoBulk dd ∧ Gd a := by
  obtain ⟨fuel, hf⟩ := hx
  obtain ⟨a, h1, h2, h3, h4⟩ := h.out hf
  exact ⟨a, h1, h2, h3, h4⟩
/-- Each weight of an argument is within the reach of the form. -/
theorem reach {H : Type} {ts : List TypeId} {ds : List (DataW H)} (h : (DataW.weightsEach P ts ds).all (· ≤ reachBytes) = true) {j : Nat} {t : TypeId} {dd : DataW H} (ht : ts[j]? = some t) (hd : ds[j]? = some dd) {l : List Nat}
    (hw : ∀ n ∈ l, n = 0 ∨ ∃ m ∈ dd.weights P t, n ≤ m) : ∀ n ∈ l, n ≤ 140737488351232 := by
  intro n hn
  rcases hw n hn with h0 | ⟨m, hm, hle⟩
  · omega
  · have := DataW.weights_mem_each ht hd m hm
    rw [List.all_eq_true] at h
    have h1 := of_decide_eq_true (h m this)
    unfold reachBytes at h1
    omega
end
end Go.Proofs.YtabgpdpdgkgmbaaDoor.Opens
/- A world in which the listed variables read as the row lists them: the door's own heap, the pinned table laid. -/
namespace Go.Proofs.YtabgpdpdgkgmbaaDoor.Door
open Go
set_option linter.unusedVariables false

def cellsOfData : DataW Unit → Array Value
  | .agg l => (l.map fun | .lit (.int k x) => Value.int k x | _ => undef).toArray
  | _ => #[]
/-- unicode/utf8.first's number. -/
theorem gFirst : Tryd.prog.globalNamed "unicode/utf8.first" = some 0 := by kernel_rfl
noncomputable def W0 (os : Os) : World :=
  { World.doorLaid Tryd.prog 19 os with heap := (World.doorLaid Tryd.prog 19 os).heap.modify 0 fun | .cells _ t f => .cells (cellsOfData Go.Pinned.utf8First) t f | o => o }
abbrev laid2 : List (String × DataW Unit) := Rows.nameSplitsRow.laid
theorem met (os : Os) (args : Array Value) : laidMetH Tryd.prog laid2 ((W0 os).forCall (fun _ _ => 0) ⟨#[], args, []⟩).memory :=
  laidMetH_of_parts3 (fuel := 8) (laidMet_of_run' 8 (by kernel_rfl) (by kernel_rfl)) (by kernel_rfl) (by kernel_rfl)
theorem shaped (os : Os) (args : Array Value) : ((W0 os).forCall (fun _ _ => 0) ⟨#[], args, []⟩).Shaped Tryd.prog := World.shaped_of_RefB (by kernel_rfl) (by kernel_rfl)
end Go.Proofs.YtabgpdpdgkgmbaaDoor.Door
