/- The plain law of Split: the program's and the document's answers are the same. -/
import Derived.Test.YtabgpdpdgkgmbaaDoorExtNameSplit
import Derived.Test.YtabgpdpdgkgmbaaDoorQ24
import Derived.Test.YtabgpdpdgkgmbaaDoorQ25
set_option linter.unusedVariables false
set_option linter.unusedSimpArgs false
namespace Go.Proofs.YtabgpdpdgkgmbaaDoor.NamePure
open Go.RowKit Go.Proofs.YtabgpdpdgkgmbaaDoor.Q Go.Proofs.YtabgpdpdgkgmbaaDoor.Loop Go.Proofs.YtabgpdpdgkgmbaaDoorW.PrintWords Go.Proofs.YtabgpdpdgkgmbaaDoorW.PrintLast Go.Proofs.YtabgpdpdgkgmbaaDoor.Bytes

theorem rd_nat (xs : List ByteArray) (i : Nat) (h : i < xs.length) : rdOf ByteArray.empty xs (i : Int) = xs[i] := by
  simp [rdOf, List.getD_eq_getElem?_getD, List.getElem?_eq_getElem h]

theorem alike_l0 (xs ys : List ByteArray) (hl : xs.length = ys.length) (hx : xs.length ≤ 140737488355328) (d : Nat) : ∀ (i k : Nat), xs.length - i = d → d < k →
    depotlaw05_alike.l0 k xs ys (xs.length : Int) (i : Int) = some (decide (xs.drop i = ys.drop i)) := by
  induction d with
  | zero =>
    intro i k hd hk
    obtain ⟨k, rfl⟩ : ∃ m, k = m + 1 := ⟨k - 1, by omega⟩
    simp only [depotlaw05_alike.l0]
    rw [if_neg (by omega), List.drop_of_length_le (by omega), List.drop_of_length_le (by omega)]
    rfl
  | succ d ih =>
    intro i k hd hk
    obtain ⟨k, rfl⟩ : ∃ m, k = m + 1 := ⟨k - 1, by omega⟩
    have hi : i < xs.length := by omega
    have hi2 : i < ys.length := by omega
    simp only [depotlaw05_alike.l0]
    rw [if_pos (by omega), if_pos (by omega), if_pos (by omega), if_pos (by omega), rd_nat _ _ hi, rd_nat _ _ hi2, List.drop_eq_getElem_cons hi, List.drop_eq_getElem_cons hi2]
    by_cases h : xs[i] = ys[i]
    · rw [if_pos (by rw [h]), wr i (by omega), ih (i + 1) k (by omega) (by omega), h]
      simp only [List.cons.injEq, true_and]
    · rw [if_neg (fun e => h (bs_inj (by rw [← toList_bs, ← toList_bs]; exact e)))]
      rw [decide_eq_false (fun e => h (List.cons.inj e).1)]
theorem alike_f (xs ys : List ByteArray) (hx : xs.length ≤ 140737488355328) (k : Nat) (hk : xs.length < k) : depotlaw05_alike.f k xs ys = some (decide (xs = ys)) := by
  unfold depotlaw05_alike.f
  by_cases hl : xs.length = ys.length
  · rw [if_pos (by omega)]
    have := alike_l0 xs ys hl hx xs.length 0 k (by omega) hk
    rw [List.drop_zero, List.drop_zero] at this
    exact this
  · rw [if_neg (by omega)]
    simp [show ¬ xs = ys from fun e => hl (by rw [e])]

theorem split_f (a : ByteArray) (h : a.size ≤ 140737488355328) : name_Split.f a = some (if bs a = [] then ([], 0, 0) else takeNames (piecesOf a) [] 0) := by
  unfold name_Split.f
  rw [if_pos h]
  split <;> rfl

/-- The text from a place on, in pieces. -/
def tailPieces (a : ByteArray) (i : Nat) : List ByteArray := (cutAt 47 ((bs a).drop i)).map (fun l => (⟨l.toArray⟩ : ByteArray))
theorem piece_eq (a : ByteArray) (i j : Nat) : a.extract i j = (⟨(((bs a).drop i).take (j - i)).toArray⟩ : ByteArray) := bs_inj (by rw [bs_extract]; exact (bs_mk _).symm)
theorem tail_stop (a : ByteArray) (frm i : Nat) (h1 : frm ≤ i) (hi : i < (bs a).length) (hno : (47 : UInt8) ∉ ((bs a).drop frm).take (i - frm)) (hc : (bs a)[i] = 47) :
    tailPieces a frm = a.extract frm i :: tailPieces a (i + 1) := by
  unfold tailPieces
  have e : (bs a).drop frm = ((bs a).drop frm).take (i - frm) ++ 47 :: (bs a).drop (i + 1) := by
    conv => lhs; rw [← List.take_append_drop (i - frm) ((bs a).drop frm)]
    congr 1
    rw [List.drop_drop, show frm + (i - frm) = i by omega, List.drop_eq_getElem_cons hi, hc]
  rw [e, cutAt_some _ _ _ hno, List.map_cons, piece_eq]
theorem tail_end (a : ByteArray) (frm : Nat) (h1 : frm ≤ (bs a).length) (hno : (47 : UInt8) ∉ ((bs a).drop frm).take ((bs a).length - frm)) :
    tailPieces a frm = [a.extract frm (bs a).length] := by
  unfold tailPieces
  rw [List.take_of_length_le (by rw [List.length_drop]; exact Nat.le_refl _)] at hno
  rw [cutAt_none _ _ hno, piece_eq, List.take_of_length_le (by rw [List.length_drop]; exact Nat.le_refl _)]
  rfl
theorem size_extract (a : ByteArray) (i j : Nat) (h1 : i ≤ j) (h2 : j ≤ (bs a).length) : (a.extract i j).size = j - i := by
  rw [size_bs, bs_extract, List.length_take, List.length_drop]
  omega

theorem ref_split (a : ByteArray) (hs : a.size ≤ 140737488351232) (d : Nat) : ∀ (i frm k : Nat) (acc : List ByteArray), (bs a).length - i = d → frm ≤ i → i ≤ (bs a).length → (47 : UInt8) ∉ ((bs a).drop frm).take (i - frm) → acc.length ≤ 31 →
    2 * d + 2 * (bs a).length + 6 ≤ k → depotref05_Split.l0 k a acc (frm : Int) (i : Int) = some (takeNames (tailPieces a frm) acc (frm : Int)) := by
  have hz := size_bs a
  induction d with
  | zero =>
    intro i frm k acc hd hf hi hno hl hk
    obtain ⟨k, rfl⟩ : ∃ m, k = m + 3 := ⟨k - 3, by omega⟩
    obtain rfl : i = (bs a).length := by omega
    rw [tail_end a frm hf hno]
    simp only [depotref05_Split.l0, depotref05_Split.j1, takeNames]
    rw [if_pos (by omega), if_neg (by omega), if_neg (by decide)]
    by_cases h31 : acc.length = 31
    · rw [if_pos (by omega), if_pos h31]
    · rw [if_neg (by omega), if_neg h31, if_pos (by omega), if_pos (by omega), if_pos (by omega), Int.toNat_natCast, Int.toNat_natCast,
        ref_check _ (by rw [← size_bs, size_extract _ _ _ hf (Nat.le_refl _)]; omega) _ (by rw [← size_bs, size_extract _ _ _ hf (Nat.le_refl _)]; omega)]
      simp only [Option.bind_some]
      by_cases hc : chk (bs (a.extract frm (bs a).length)) = 0
      · rw [if_pos hc, if_pos hc, if_pos (by omega), wr _ (by omega), if_neg (by omega)]
      · rw [if_neg hc, if_neg hc]
  | succ d ih =>
    intro i frm k acc hd hf hi hno hl hk
    obtain ⟨k, rfl⟩ : ∃ m, k = m + 2 := ⟨k - 2, by omega⟩
    have hlt : i < (bs a).length := by omega
    simp only [depotref05_Split.l0, depotref05_Split.j1]
    rw [if_pos (by omega), if_pos (by omega), if_pos (by omega), bt_lt a i hlt]
    by_cases h47 : (bs a)[i] = 47
    · rw [if_neg (by rw [h47]; decide), tail_stop a frm i hf hlt hno h47, takeNames]
      by_cases h31 : acc.length = 31
      · rw [if_pos (by omega), if_pos h31]
      · rw [if_neg (by omega), if_neg h31, if_pos (by omega), if_pos (by omega), if_pos (by omega), Int.toNat_natCast, Int.toNat_natCast,
          ref_check _ (by rw [← size_bs, size_extract _ _ _ hf hi]; omega) _ (by rw [← size_bs, size_extract _ _ _ hf hi]; omega)]
        simp only [Option.bind_some]
        by_cases hc : chk (bs (a.extract frm i)) = 0
        · have e : wrap64 ((frm : Int) + wrap64 (((a.extract frm i).size : Int) + 1)) = ((i + 1 : Nat) : Int) := by
            rw [size_extract _ _ _ hf hi, wr _ (by omega), w64 (by omega) (by omega)]
            omega
          rw [if_pos hc, if_pos hc, if_pos (by omega), wr _ (by omega), e]
          exact ih (i + 1) (i + 1) k _ (by omega) (Nat.le_refl _) (by omega) (by simp) (by simp; omega) (by omega)
        · rw [if_neg hc, if_neg hc]
    · have hb : ((((bs a)[i]).toNat : Int) != 47) = true := by rw [bne_iff_ne]; exact fun e => h47 ((byte47 _).1 e)
      rw [hb, if_pos rfl, wr _ (by omega)]
      refine ih (i + 1) frm k acc (by omega) (by omega) (by omega) ?_ hl (by omega)
      rw [show i + 1 - frm = (i - frm) + 1 by omega, List.take_add_one, List.mem_append]
      rintro (h | h)
      · exact hno h
      · rw [List.getElem?_drop, show frm + (i - frm) = i by omega, List.getElem?_eq_getElem hlt] at h
        simp at h
        exact h47 h.symm
theorem ref_split_f (a : ByteArray) (hs : a.size ≤ 140737488351232) (k : Nat) (hk : 4 * (bs a).length + 6 ≤ k) : depotref05_Split.f k a = some (if bs a = [] then ([], 0, 0) else takeNames (piecesOf a) [] 0) := by
  unfold depotref05_Split.f
  rw [toList_bs]
  split
  · rfl
  · have := ref_split a hs (bs a).length 0 0 k [] (by omega) (Nat.le_refl _) (Nat.zero_le _) (by simp) (by simp) (by omega)
    exact this

/-- What Split answers has at most 31 names. -/
theorem takes_len : ∀ (ps acc : List ByteArray) (p : Int), acc.length ≤ 31 → (takeNames ps acc p).1.length ≤ 31
  | [], acc, p, h => h
  | x :: r, acc, p, h => by
    rw [takeNames]
    split
    · simp
    · split
      · exact takes_len r _ _ (by simp; omega)
      · simp
theorem split_len (a : ByteArray) : (if bs a = [] then (([] : List ByteArray), (0 : Int), (0 : Int)) else takeNames (piecesOf a) [] 0).1.length ≤ 31 := by
  split
  · simp
  · exact takes_len _ _ _ (by simp)
end Go.Proofs.YtabgpdpdgkgmbaaDoor.NamePure
