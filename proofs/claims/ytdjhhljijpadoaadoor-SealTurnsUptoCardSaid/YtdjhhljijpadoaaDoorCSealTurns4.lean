/- Texts of this claim, put together: B32, B32Enc, RB32, Sign, Add, Right, Cut, Tail, SplitSign, Count, B32Back, AwakeS, TurnPure, TurnSt, ExtTurns, DoorSha, Opens, Arr, Upto. -/
import Derived.Test.YtdjhhljijpadoaaDoorCSealTurns3
import Derived.Test.YtdjhhljijpadoaaDoorCSealTurns2
import Derived.Test.YtdjhhljijpadoaaDoorEv
import Derived.Laws.BitsAllLaws
import Derived.Lib.IndexAny
import Derived.Test.YtdjhhljijpadoaaDoorCSealTurns1
import Derived.Test.YtdjhhljijpadoaaDoorQ12
import Derived.Test.YtdjhhljijpadoaaDoorQ56
import Derived.Test.YtdjhhljijpadoaaDoorPut
import Derived.Test.YtdjhhljijpadoaaDoorShelf
import Derived.Test.YtdjhhljijpadoaaDoorBytes
import Derived.Test.YtdjhhljijpadoaaDoorKit
import Derived.Test.YtdjhhljijpadoaaDoorWMore
import Derived.WalkKit
import Derived.Below
import Derived.Lib.IndexLaws
import Derived.Deep.QuietTactic
import Derived.BigQuiet
import Derived.Test.YtdjhhljijpadoaaDoorWWords
import Derived.Test.YtdjhhljijpadoaaDoorWLast
import Derived.ArgAppend
import Derived.Lib.ConvBytes
import Derived.Laws.Cover3
import Derived.Test.YtdjhhljijpadoaaDoorOrdersBut
import Derived.Sort.AtCall
import Derived.Test.YtdjhhljijpadoaaDoorRows
import Derived.ProofKit
import Derived.LaidMore
import Derived.LaidLaws
import Derived.LaidHandle
import Derived.OpenShut
import Derived.Deep.Slices
import Derived.SizedLaws
import Derived.Test.YtdjhhljijpadoaaDoorShaBlock
import Derived.WideShapes
/- Base 32, back: what radix.FromBase32 answers, in numbers. -/
set_option linter.unusedVariables false
set_option linter.unusedSimpArgs false
namespace Go.Proofs.YtdjhhljijpadoaaDoor.B32
open Go.RowKit Go.Proofs.YtdjhhljijpadoaaDoor.Q Go.Proofs.YtdjhhljijpadoaaDoorW.PrintWords Go.Proofs.YtdjhhljijpadoaaDoorW.PrintLast Go.Proofs.YtdjhhljijpadoaaDoorW.PrintMore Go.Proofs.YtdjhhljijpadoaaDoor.Bytes Go.Proofs.YtdjhhljijpadoaaDoor.Evs

/-- The thirty-two letters. -/
def letters : List UInt8 := [48, 49, 50, 51, 52, 53, 54, 55, 56, 57, 97, 98, 99, 100, 102, 103, 104, 105, 106, 107, 108, 109, 110, 112, 113, 114, 115, 118, 119, 120, 121, 122]
/-- A letter's place, or -1. -/
def val (c : UInt8) : Int := Lib.indexByte letters c
theorem val_fn (c : UInt8) : radix_Value.f (c.toNat : Int) = some (val c) := by
  unfold radix_Value.f strings_IndexByte.f
  rw [back]
  rfl
theorem val_all : ∀ n, n < 256 → (-1 ≤ val (UInt8.ofNat n) ∧ val (UInt8.ofNat n) < 32) := by decide +kernel
theorem val_range (c : UInt8) : -1 ≤ val c ∧ val c < 32 := by
  have := val_all c.toNat c.toNat_lt
  rw [UInt8.ofNat_toNat] at this
  exact this
/-- The number of letters, the first one the lowest. -/
def num : List UInt8 → Nat
  | [] => 0
  | c :: t => (val c).toNat + 32 * num t
theorem num_append (a b : List UInt8) : num (a ++ b) = num a + 32 ^ a.length * num b := by
  induction a with
  | nil => simp [num]
  | cons c a ih =>
    rw [List.cons_append, num, num, ih, List.length_cons, Nat.pow_succ, Nat.mul_add, ← Nat.mul_assoc, Nat.mul_comm 32 (32 ^ a.length)]
    omega
theorem num_lt (l : List UInt8) : num l < 32 ^ l.length := by
  induction l with
  | nil => simp [num]
  | cons c l ih =>
    have := val_range c
    rw [num, List.length_cons, Nat.pow_succ]
    omega
/-- The digits of a number, by bytes, the lowest first. -/
def digs (t M : Nat) : List Nat := (List.range t).map fun j => M / 256 ^ j % 256
theorem digs_succ (t M : Nat) : digs (t + 1) M = digs t M ++ [M / 256 ^ t % 256] := by
  unfold digs
  rw [List.range_succ, List.map_append]
  rfl
theorem digs_more (t M m v : Nat) (h : 8 * t ≤ 5 * m) : digs t (M + 32 ^ m * v) = digs t M := by
  unfold digs
  apply List.map_congr_left
  intro j hj
  rw [List.mem_range] at hj
  have e : 32 ^ m * v = 256 ^ j * (256 * (2 ^ (5 * m - 8 * j - 8) * v)) := by
    have e1 : (32 : Nat) ^ m = 2 ^ (5 * m) := by rw [show (32 : Nat) = 2 ^ 5 from rfl, ← Nat.pow_mul]
    have e2 : (256 : Nat) ^ j = 2 ^ (8 * j) := by rw [show (256 : Nat) = 2 ^ 8 from rfl, ← Nat.pow_mul]
    rw [e1, e2, show (256 : Nat) = 2 ^ 8 from rfl, ← Nat.mul_assoc, ← Nat.mul_assoc, ← Nat.pow_add, ← Nat.pow_add]
    congr 2
    omega
  rw [e, Nat.add_mul_div_left _ _ (Nat.pow_pos (by omega)), Nat.add_mul_mod_self_left]
theorem acc_more (t M m v : Nat) (h : 8 * t ≤ 5 * m) : (M + 32 ^ m * v) / 256 ^ t = M / 256 ^ t + 2 ^ (5 * m - 8 * t) * v := by
  have e : 32 ^ m * v = 256 ^ t * (2 ^ (5 * m - 8 * t) * v) := by
    have e1 : (32 : Nat) ^ m = 2 ^ (5 * m) := by rw [show (32 : Nat) = 2 ^ 5 from rfl, ← Nat.pow_mul]
    have e2 : (256 : Nat) ^ t = 2 ^ (8 * t) := by rw [show (256 : Nat) = 2 ^ 8 from rfl, ← Nat.pow_mul]
    rw [e1, e2, ← Nat.mul_assoc, ← Nat.pow_add]
    congr 2
    omega
  rw [e, Nat.add_mul_div_left _ _ (Nat.pow_pos (by omega))]
theorem acc_lt (t M m : Nat) (h : 8 * t ≤ 5 * m) (hM : M < 32 ^ m) : M / 256 ^ t < 2 ^ (5 * m - 8 * t) := by
  rw [Nat.div_lt_iff_lt_mul (Nat.pow_pos (by omega))]
  have e1 : (32 : Nat) ^ m = 2 ^ (5 * m) := by rw [show (32 : Nat) = 2 ^ 5 from rfl, ← Nat.pow_mul]
  have e2 : (256 : Nat) ^ t = 2 ^ (8 * t) := by rw [show (256 : Nat) = 2 ^ 8 from rfl, ← Nat.pow_mul]
  rw [e1] at hM
  rw [e2, ← Nat.pow_add, show 5 * m - 8 * t + 8 * t = 5 * m by omega]
  exact hM
/-- '|' of a letter beyond the bits held is '+'. -/
theorem or_add (a v h : Nat) (hh : h ≤ 7) (ha : a < 2 ^ h) (hv : v < 32) : Go.bits .or .u64 (a : Int) (shl .u64 (IntKind.u64.wrap (v : Int)) (h : Int)) = ((a + 2 ^ h * v : Nat) : Int) := by
  have hp : 2 ^ h ≤ 2 ^ 7 := Nat.pow_le_pow_right (by omega) hh
  have hv2 : 2 ^ h * v ≤ 2 ^ 7 * 31 := Nat.mul_le_mul hp (by omega)
  have e1 : IntKind.u64.wrap (v : Int) = (v : Int) := by
    simp only [IntKind.wrap, IntKind.bits, IntKind.signed]
    simp
    omega
  have e2 : shl .u64 (v : Int) (h : Int) = ((2 ^ h * v : Nat) : Int) := by
    unfold shl
    have e3 : min ((h : Int)).toNat (IntKind.bits .u64) = h := by
      rw [Int.toNat_natCast]
      exact Nat.min_eq_left (by show h ≤ 64; omega)
    rw [e3]
    have e4 : (v : Int) * 2 ^ h = ((2 ^ h * v : Nat) : Int) := by
      rw [Int.natCast_mul, Int.mul_comm]
      simp
    rw [e4]
    generalize 2 ^ h * v = q at hv2
    simp only [IntKind.wrap, IntKind.bits, IntKind.signed]
    simp
    omega
  rw [e1, e2, u64_or_nat _ _ (by omega) (by omega)]
  congr 1
  rw [Nat.or_comm, ← Nat.two_pow_add_eq_or_of_lt ha, Nat.add_comm]

/-- What a text of letters answers: bytes and the error's number. -/
def dec (l : List UInt8) : ByteArray × Int :=
  if (8 * (5 * l.length / 8) + 4) / 5 ≠ l.length then (⟨#[]⟩, 21)
  else if ∃ c ∈ l, val c < 0 then (⟨#[]⟩, 20)
  else if num l.reverse / 256 ^ (5 * l.length / 8) = 0 then (strOfNums ((digs (5 * l.length / 8) (num l.reverse)).map Int.ofNat), 0) else (⟨#[]⟩, 22)
def fin (R : List UInt8) (n m : Nat) : ByteArray × Int :=
  if ∃ c ∈ R.drop m, val c < 0 then (⟨#[]⟩, 20) else if num R / 256 ^ n = 0 then (strOfNums ((digs n (num R)).map Int.ofNat), 0) else (⟨#[]⟩, 22)
theorem digs_length (t M : Nat) : (digs t M).length = t := by simp [digs]
theorem u64_small (x : Nat) (h : x < 1000) : IntKind.u64.wrap (x : Int) = (x : Int) := by
  simp only [IntKind.wrap, IntKind.bits, IntKind.signed]
  simp
  omega
theorem loop (s : ByteArray) (hs : (bs s).length ≤ 140737488351232) (n : Nat) (h1 : 8 * n ≤ 5 * (bs s).length) (h2 : 5 * (bs s).length < 8 * (n + 1)) (d : Nat) :
    ∀ m t, d + m = (bs s).length → t ≤ n → 8 * t ≤ 5 * m → (t = n ∨ 5 * m < 8 * (t + 1)) →
      Ev (fun k => radix_FromBase32.l0 k s (n : Int) ((digs t (num ((bs s).reverse.take m))).map Int.ofNat) ((num ((bs s).reverse.take m) / 256 ^ t : Nat) : Int) ((5 * m - 8 * t : Nat) : Int) ((d : Int) - 1)) (fin (bs s).reverse n m) := by
  induction d with
  | zero =>
    intro m t hm ht htm hc
    have et : t = n := by omega
    subst et
    have hl : (bs s).reverse.length = m := by rw [List.length_reverse]; omega
    refine succ ?_
    simp only [radix_FromBase32.l0]
    refine neg (by omega) ?_
    have hf : fin (bs s).reverse t m = if num (bs s).reverse / 256 ^ t = 0 then (strOfNums ((digs t (num (bs s).reverse)).map Int.ofNat), 0) else (⟨#[]⟩, 22) := by
      unfold fin
      rw [List.drop_of_length_le (by omega), if_neg (by simp)]
    rw [hf, List.take_of_length_le (by omega)]
    by_cases h : num (bs s).reverse / 256 ^ t = 0
    · rw [if_pos h]
      exact pos (by rw [h]; rfl) (Ev.now _)
    · rw [if_neg h]
      exact neg (by omega) (Ev.now _)
  | succ d ih =>
    intro m t hm ht htm hc
    obtain ⟨R, hR⟩ : ∃ R, (bs s).reverse = R := ⟨_, rfl⟩
    have hl : R.length = (bs s).length := by rw [← hR, List.length_reverse]
    have hmR : m < R.length := by omega
    have hdl : d < (bs s).length := by omega
    have ec : (bs s)[d] = R[m] := by
      subst hR
      rw [List.getElem_reverse]
      congr 1
      omega
    rw [hR] at ih ⊢
    refine succ ?_
    simp only [radix_FromBase32.l0]
    have e1 : ((d + 1 : Nat) : Int) - 1 = (d : Int) := by omega
    rw [e1]
    refine pos (by omega) (pos (by omega) (pos (by rw [size_bs]; omega) ?_))
    rw [bt_lt s d hdl, ec]
    refine call (val_fn R[m]) ?_
    have hv := val_range R[m]
    have htake : R.take (m + 1) = R.take m ++ [R[m]] := List.take_succ_eq_append_getElem hmR
    by_cases hneg : val R[m] < 0
    · refine pos hneg ?_
      unfold fin
      rw [if_pos ⟨R[m], by rw [List.drop_eq_getElem_cons hmR]; exact List.mem_cons_self, hneg⟩]
      exact Ev.now _
    · refine neg hneg (pos (by omega) ?_)
      obtain ⟨v, hv2⟩ : ∃ v : Nat, val R[m] = (v : Int) := ⟨(val R[m]).toNat, by omega⟩
      have hv3 : v < 32 := by omega
      obtain ⟨M, hM⟩ : ∃ M, num (R.take m) = M := ⟨_, rfl⟩
      have hMlt : M < 32 ^ m := by
        have := num_lt (R.take m)
        rw [List.length_take, Nat.min_eq_left (by omega), hM] at this
        exact this
      have hM' : num (R.take (m + 1)) = M + 32 ^ m * v := by
        rw [htake, num_append, hM, List.length_take, Nat.min_eq_left (by omega)]
        simp [num, hv2]
      have hh7 : 5 * m - 8 * t ≤ 7 := by omega
      have hacc := acc_lt t M m htm hMlt
      have hor := or_add (M / 256 ^ t) v (5 * m - 8 * t) hh7 hacc hv3
      rw [← acc_more t M m v htm] at hor
      have hfin : fin R n m = fin R n (m + 1) := by
        unfold fin
        have : (∃ c ∈ R.drop m, val c < 0) ↔ (∃ c ∈ R.drop (m + 1), val c < 0) := by
          rw [List.drop_eq_getElem_cons hmR]
          constructor
          · rintro ⟨c, hc1, hc2⟩
            rcases List.mem_cons.1 hc1 with rfl | hc1
            · exact absurd hc2 hneg
            · exact ⟨c, hc1, hc2⟩
          · rintro ⟨c, hc1, hc2⟩
            exact ⟨c, List.mem_cons_of_mem _ hc1, hc2⟩
        by_cases hx : ∃ c ∈ R.drop (m + 1), val c < 0
        · rw [if_pos hx, if_pos (this.2 hx)]
        · rw [if_neg hx, if_neg (fun h => hx (this.1 h))]
      rw [hM, hv2, hor, hfin]
      have e5 : IntKind.u64.wrap (((5 * m - 8 * t : Nat) : Int) + 5) = ((5 * m - 8 * t + 5 : Nat) : Int) := by
        have := u64_small (5 * m - 8 * t + 5) (by omega)
        rw [← this]; congr 1
      have ed : wrap64 ((d : Int) - 1) = (d : Int) - 1 := w64 (by omega) (by omega)
      rw [e5, ed]
      have edig : digs t (M + 32 ^ m * v) = digs t M := digs_more t M m v htm
      by_cases h8 : 8 ≤ 5 * m - 8 * t + 5
      · refine pos (by omega) ?_
        by_cases htn : t < n
        · refine pos (by rw [List.length_map, digs_length]; omega) (pos (by rw [List.length_map, digs_length]; omega) ?_)
          have e6 : IntKind.u64.wrap (((5 * m - 8 * t + 5 : Nat) : Int) - 8) = ((5 * (m + 1) - 8 * (t + 1) : Nat) : Int) := by
            have := u64_small (5 * (m + 1) - 8 * (t + 1)) (by omega)
            rw [← this]; congr 1; omega
          have := ih (m + 1) (t + 1) (by omega) (by omega) (by omega) (by omega)
          rw [hM', digs_succ, edig] at this
          rw [e6]
          have e7 : (((M + 32 ^ m * v) / 256 ^ t : Nat) : Int) / 256 = (((M + 32 ^ m * v) / 256 ^ (t + 1) : Nat) : Int) := by
            rw [Nat.pow_succ, ← Nat.div_div_eq_div_mul]
            rfl
          have e8 : List.map Int.ofNat (digs t M ++ [(M + 32 ^ m * v) / 256 ^ t % 256]) = List.map Int.ofNat (digs t M) ++ [(((M + 32 ^ m * v) / 256 ^ t : Nat) : Int) % 256] := by
            rw [List.map_append]
            rfl
          rw [e7, ← e8]
          exact this
        · exfalso
          omega
      · refine neg (by omega) ?_
        have := ih (m + 1) t (by omega) (by omega) (by omega) (by omega)
        rw [hM', edig] at this
        have e6 : 5 * (m + 1) - 8 * t = 5 * m - 8 * t + 5 := by omega
        rw [e6] at this
        exact this

theorem fromBase32 (s : ByteArray) (hs : (bs s).length ≤ 140737488351232) : Ev (fun k => radix_FromBase32.f k s) (dec (bs s)) := by
  unfold radix_FromBase32.f dec
  obtain ⟨L, hL⟩ : ∃ L, (bs s).length = L := ⟨_, rfl⟩
  have e1 : wrap64 (Int.tdiv (wrap64 (5 * (s.size : Int))) 8) = ((5 * L / 8 : Nat) : Int) := by
    rw [size_bs, hL]
    have : wrap64 (5 * (L : Int)) = ((5 * L : Nat) : Int) := by rw [w64 (by omega) (by omega)]; omega
    rw [this, Int.tdiv_eq_ediv_of_nonneg (by omega)]
    have : ((5 * L : Nat) : Int) / 8 = ((5 * L / 8 : Nat) : Int) := by omega
    rw [this]
    exact w64 (by omega) (by omega)
  have e2 : wrap64 (Int.tdiv (wrap64 ((wrap64 (8 * ((5 * L / 8 : Nat) : Int))) + 4)) 5) = (((8 * (5 * L / 8) + 4) / 5 : Nat) : Int) := by
    have : wrap64 (8 * ((5 * L / 8 : Nat) : Int)) = ((8 * (5 * L / 8) : Nat) : Int) := by rw [w64 (by omega) (by omega)]; omega
    rw [this]
    have : wrap64 (((8 * (5 * L / 8) : Nat) : Int) + 4) = ((8 * (5 * L / 8) + 4 : Nat) : Int) := by rw [w64 (by omega) (by omega)]; omega
    rw [this, Int.tdiv_eq_ediv_of_nonneg (by omega)]
    have : ((8 * (5 * L / 8) + 4 : Nat) : Int) / 5 = (((8 * (5 * L / 8) + 4) / 5 : Nat) : Int) := by omega
    rw [this]
    exact w64 (by omega) (by omega)
  rw [e1, e2, hL]
  by_cases h : (8 * (5 * L / 8) + 4) / 5 = L
  · refine pos (by rw [size_bs, hL, h]) (pos (by omega) (pos (by omega) ?_))
    rw [if_neg (by omega)]
    have := loop s hs (5 * L / 8) (by omega) (by omega) L 0 0 (by omega) (by omega) (by omega) (by omega)
    have e3 : wrap64 ((s.size : Int) - 1) = (L : Int) - 1 := by rw [size_bs, hL]; exact w64 (by omega) (by omega)
    rw [e3]
    have e4 : fin (bs s).reverse (5 * L / 8) 0 = (if ∃ c ∈ bs s, val c < 0 then (⟨#[]⟩, 20) else if num (bs s).reverse / 256 ^ (5 * L / 8) = 0 then (strOfNums ((digs (5 * L / 8) (num (bs s).reverse)).map Int.ofNat), 0) else (⟨#[]⟩, 22) : ByteArray × Int) := by
      unfold fin
      simp only [List.drop_zero, List.mem_reverse]
    rw [← e4]
    simpa [num, digs] using this
  · refine neg (by rw [size_bs, hL]; omega) ?_
    rw [if_pos h]
    exact Ev.now _
end Go.Proofs.YtdjhhljijpadoaaDoor.B32
/- Base 32: what radix.Base32 writes of any bytes, in numbers. -/
set_option linter.unusedVariables false
set_option linter.unusedSimpArgs false
namespace Go.Proofs.YtdjhhljijpadoaaDoor.B32
open Go.RowKit Go.Proofs.YtdjhhljijpadoaaDoor.Q Go.Proofs.YtdjhhljijpadoaaDoorW.PrintWords Go.Proofs.YtdjhhljijpadoaaDoorW.PrintLast Go.Proofs.YtdjhhljijpadoaaDoorW.PrintMore Go.Proofs.YtdjhhljijpadoaaDoor.Bytes Go.Proofs.YtdjhhljijpadoaaDoor.Evs

/-- The number of bytes, the first one the lowest. -/
def numB : List UInt8 → Nat
  | [] => 0
  | c :: t => c.toNat + 256 * numB t
theorem numB_append (a b : List UInt8) : numB (a ++ b) = numB a + 256 ^ a.length * numB b := by
  induction a with
  | nil => simp [numB]
  | cons c a ih =>
    rw [List.cons_append, numB, numB, ih, List.length_cons, Nat.pow_succ, Nat.mul_add, ← Nat.mul_assoc, Nat.mul_comm 256 (256 ^ a.length)]
    omega
theorem numB_lt (l : List UInt8) : numB l < 256 ^ l.length := by
  induction l with
  | nil => simp [numB]
  | cons c l ih =>
    have := c.toNat_lt
    rw [numB, List.length_cons, Nat.pow_succ]
    omega
/-- Letter number v. -/
def lt32 (v : Nat) : UInt8 := letters.getD v 0
/-- The letters of a number, the lowest first. -/
def d32 (t N : Nat) : List UInt8 := (List.range t).map fun j => lt32 (N / 32 ^ j % 32)
theorem d32_len (t N : Nat) : (d32 t N).length = t := by simp [d32]
theorem d32_succ (t N : Nat) : d32 (t + 1) N = d32 t N ++ [lt32 (N / 32 ^ t % 32)] := by
  unfold d32
  rw [List.range_succ, List.map_append]
  rfl
/-- What bytes are as letters. -/
def enc (l : List UInt8) : List UInt8 := (d32 ((8 * l.length + 4) / 5) (numB l)).reverse
theorem pow_parts (i t : Nat) (h : 5 * t ≤ 8 * i) : (256 : Nat) ^ i = 32 ^ t * 2 ^ (8 * i - 5 * t) := by
  have e1 : (32 : Nat) ^ t = 2 ^ (5 * t) := by rw [show (32 : Nat) = 2 ^ 5 from rfl, ← Nat.pow_mul]
  have e2 : (256 : Nat) ^ i = 2 ^ (8 * i) := by rw [show (256 : Nat) = 2 ^ 8 from rfl, ← Nat.pow_mul]
  rw [e1, e2, ← Nat.pow_add]
  congr 1
  omega
theorem d32_more (t M i b : Nat) (h : 5 * t ≤ 8 * i) : d32 t (M + 256 ^ i * b) = d32 t M := by
  unfold d32
  apply List.map_congr_left
  intro j hj
  rw [List.mem_range] at hj
  have e : 256 ^ i * b = 32 ^ j * (32 * (2 ^ (8 * i - 5 * (j + 1)) * b)) := by
    rw [pow_parts i (j + 1) (by omega), Nat.pow_succ]
    simp only [Nat.mul_assoc]
  rw [e, Nat.add_mul_div_left _ _ (Nat.pow_pos (by omega)), Nat.add_mul_mod_self_left]
theorem acc32_more (t M i b : Nat) (h : 5 * t ≤ 8 * i) : (M + 256 ^ i * b) / 32 ^ t = M / 32 ^ t + 2 ^ (8 * i - 5 * t) * b := by
  rw [pow_parts i t h, Nat.mul_assoc, Nat.add_mul_div_left _ _ (Nat.pow_pos (by omega))]
theorem acc32_lt (t M i : Nat) (h : 5 * t ≤ 8 * i) (hM : M < 256 ^ i) : M / 32 ^ t < 2 ^ (8 * i - 5 * t) := by
  rw [Nat.div_lt_iff_lt_mul (Nat.pow_pos (by omega)), Nat.mul_comm, ← pow_parts i t h]
  exact hM
/-- '|' of a byte beyond the bits held is '+'. -/
theorem or_byte (a v h : Nat) (hh : h ≤ 7) (ha : a < 2 ^ h) (hv : v < 256) : Go.bits .or .u64 (a : Int) (shl .u64 (IntKind.u64.wrap (v : Int)) (h : Int)) = ((a + 2 ^ h * v : Nat) : Int) := by
  have hp : 2 ^ h ≤ 2 ^ 7 := Nat.pow_le_pow_right (by omega) hh
  have hv2 : 2 ^ h * v ≤ 2 ^ 7 * 255 := Nat.mul_le_mul hp (by omega)
  have e1 : IntKind.u64.wrap (v : Int) = (v : Int) := by
    simp only [IntKind.wrap, IntKind.bits, IntKind.signed]
    simp
    omega
  have e2 : shl .u64 (v : Int) (h : Int) = ((2 ^ h * v : Nat) : Int) := by
    unfold shl
    have e3 : min ((h : Int)).toNat (IntKind.bits .u64) = h := by
      rw [Int.toNat_natCast]
      exact Nat.min_eq_left (by show h ≤ 64; omega)
    rw [e3]
    have e4 : (v : Int) * 2 ^ h = ((2 ^ h * v : Nat) : Int) := by
      rw [Int.natCast_mul, Int.mul_comm]
      simp
    rw [e4]
    generalize 2 ^ h * v = q at hv2
    simp only [IntKind.wrap, IntKind.bits, IntKind.signed]
    simp
    omega
  rw [e1, e2, u64_or_nat _ _ (by omega) (by omega)]
  congr 1
  rw [Nat.or_comm, ← Nat.two_pow_add_eq_or_of_lt ha, Nat.add_comm]
theorem and_31 (x : Nat) (hx : x < 18446744073709551616) : Go.bits .and .u64 (x : Int) 31 = ((x % 32 : Nat) : Int) := by
  rw [show (31 : Int) = ((31 : Nat) : Int) from rfl, u64_and_nat _ _ hx (by omega)]
  congr 1
  exact Nat.and_two_pow_sub_one_eq_mod x 5
/-- The row so far: room, then the letters. -/
def row32 (m t N : Nat) : List Int := List.replicate (m - t) 0 ++ (d32 t N).reverse.map fun c => (c.toNat : Int)
theorem row32_len (m t N : Nat) (h : t ≤ m) : (row32 m t N).length = m := by
  unfold row32
  rw [List.length_append, List.length_replicate, List.length_map, List.length_reverse, d32_len]
  omega
theorem row32_set (m t N : Nat) (h : t < m) : (row32 m t N).set (m - t - 1) ((lt32 (N / 32 ^ t % 32)).toNat : Int) = row32 m (t + 1) N := by
  unfold row32
  rw [d32_succ, List.reverse_append, List.reverse_singleton, List.singleton_append, List.map_cons]
  obtain ⟨q, hq⟩ : ∃ q, m - t = q + 1 := ⟨m - t - 1, by omega⟩
  rw [show m - t - 1 = q from by omega, show m - (t + 1) = q from by omega, hq, List.replicate_succ', List.append_assoc, List.set_append_right _ _ (by rw [List.length_replicate]; exact Nat.le_refl _)]
  simp
theorem bt_letter (v : Nat) : bt (⟨#[48, 49, 50, 51, 52, 53, 54, 55, 56, 57, 97, 98, 99, 100, 102, 103, 104, 105, 106, 107, 108, 109, 110, 112, 113, 114, 115, 118, 119, 120, 121, 122]⟩ : ByteArray) (v : Int) = ((lt32 v).toNat : Int) := by
  rw [bt_bs, Int.toNat_natCast]
  rfl
theorem nums_row (l : List UInt8) : strOfNums (l.map fun c => (c.toNat : Int)) = ⟨l.toArray⟩ := by
  unfold strOfNums
  rw [List.map_map]
  congr 1
  congr 1
  conv => rhs; rw [← List.map_id l]
  exact List.map_congr_left fun c _ => by simp
theorem inner (s : ByteArray) (n m N i : Nat) (R : ByteArray) (hN : N < 256 ^ (i + 1)) (hi : i < n) (hm : m = (8 * n + 4) / 5) (hn : n < 140737488351232) (q : Nat) : ∀ t r, 8 * (i + 1) = 5 * t + 5 * q + r → r < 5 → 8 * (i + 1) - 5 * t ≤ 12 →
    Ev (fun k => radix_Base32.l0 k s (row32 m (t + q) N) ((N / 32 ^ (t + q) : Nat) : Int) (r : Int) ((m - (t + q) : Nat) : Int) (n : Int) ((i + 1 : Nat) : Int)) R →
    Ev (fun k => radix_Base32.l1 k s (row32 m t N) ((N / 32 ^ t : Nat) : Int) ((8 * (i + 1) - 5 * t : Nat) : Int) ((m - t : Nat) : Int) (n : Int) (i : Int)) R := by
  induction q with
  | zero =>
    intro t r h hr h12 hk
    refine succ ?_
    simp only [radix_Base32.l1]
    refine neg (by omega) ?_
    rw [wr i (by omega), show 8 * (i + 1) - 5 * t = r from by omega]
    exact hk
  | succ q ih =>
    intro t r h hr h12 hk
    have hacc := acc32_lt t N (i + 1) (by omega) hN
    have hp : 2 ^ (8 * (i + 1) - 5 * t) ≤ 2 ^ 12 := Nat.pow_le_pow_right (by omega) h12
    have ea := and_31 (N / 32 ^ t) (by omega)
    refine succ ?_
    simp only [radix_Base32.l1]
    rw [ea]
    have ew : wrap64 (((m - t : Nat) : Int) - 1) = ((m - t - 1 : Nat) : Int) := by rw [w64 (by omega) (by omega)]; omega
    rw [ew]
    have hmod : N / 32 ^ t % 32 < 32 := Nat.mod_lt _ (by omega)
    refine pos (by omega) (pos (by omega) (pos (by omega) (pos (by omega) (pos (by rw [row32_len _ _ _ (by omega)]; omega) ?_))))
    rw [bt_letter, Int.toNat_natCast, row32_set m t N (by omega)]
    have ed : ((N / 32 ^ t : Nat) : Int) / 32 = ((N / 32 ^ (t + 1) : Nat) : Int) := by
      rw [Nat.pow_succ, ← Nat.div_div_eq_div_mul]
      omega
    have e5 : IntKind.u64.wrap (((8 * (i + 1) - 5 * t : Nat) : Int) - 5) = ((8 * (i + 1) - 5 * (t + 1) : Nat) : Int) := by
      rw [IntKind.wrap_u64]
      omega
    rw [ed, e5, show m - t - 1 = m - (t + 1) from by omega]
    refine ih (t + 1) r (by omega) hr (by omega) ?_
    rw [show t + 1 + q = t + (q + 1) from by omega]
    exact hk
theorem outer (s : ByteArray) (hs : (bs s).length < 140737488351232) (d : Nat) : ∀ i, i + d = (bs s).length →
    Ev (fun k => radix_Base32.l0 k s (row32 ((8 * (bs s).length + 4) / 5) (8 * i / 5) (numB ((bs s).take i))) ((numB ((bs s).take i) / 32 ^ (8 * i / 5) : Nat) : Int) ((8 * i - 5 * (8 * i / 5) : Nat) : Int) (((8 * (bs s).length + 4) / 5 - 8 * i / 5 : Nat) : Int) ((bs s).length : Int) (i : Int)) ⟨(enc (bs s)).toArray⟩ := by
  obtain ⟨n, hn⟩ : ∃ n, (bs s).length = n := ⟨_, rfl⟩
  obtain ⟨m, hm⟩ : ∃ m, (8 * n + 4) / 5 = m := ⟨_, rfl⟩
  have henc : enc (bs s) = (d32 m (numB (bs s))).reverse := by unfold enc; rw [hn, hm]
  rw [hn, hm]
  rw [hn] at hs
  induction d with
  | zero =>
    intro i hi
    obtain rfl : i = n := by omega
    rw [List.take_of_length_le (by omega), henc]
    generalize hN : numB (bs s) = N
    have hlt : N < 256 ^ i := by rw [← hN, ← hn]; exact numB_lt _
    refine succ ?_
    simp only [radix_Base32.l0]
    refine neg (by omega) ?_
    by_cases hh : 0 < 8 * i - 5 * (8 * i / 5)
    · refine pos (by omega) ?_
      have hacc := acc32_lt (8 * i / 5) N i (by omega) hlt
      have hp : 2 ^ (8 * i - 5 * (8 * i / 5)) ≤ 2 ^ 12 := Nat.pow_le_pow_right (by omega) (by omega)
      have ea := and_31 (N / 32 ^ (8 * i / 5)) (by omega)
      rw [ea]
      have ew : wrap64 (((m - 8 * i / 5 : Nat) : Int) - 1) = ((m - 8 * i / 5 - 1 : Nat) : Int) := by rw [w64 (by omega) (by omega)]; omega
      rw [ew]
      have hmod : N / 32 ^ (8 * i / 5) % 32 < 32 := Nat.mod_lt _ (by omega)
      refine pos (by omega) (pos (by omega) (pos (by omega) (pos (by rw [row32_len _ _ _ (by omega)]; omega) ?_)))
      rw [bt_letter, Int.toNat_natCast, row32_set m _ N (by omega)]
      refine now (congrArg some ?_)
      unfold row32
      rw [show 8 * i / 5 + 1 = m from by omega, Nat.sub_self, List.replicate_zero, List.nil_append]
      exact nums_row _
    · refine neg (by omega) ?_
      refine now (congrArg some ?_)
      unfold row32
      rw [show 8 * i / 5 = m from by omega, Nat.sub_self, List.replicate_zero, List.nil_append]
      exact nums_row _
  | succ d ih =>
    intro i hi
    have hil : i < (bs s).length := by omega
    have htake : (bs s).take (i + 1) = (bs s).take i ++ [(bs s)[i]] := List.take_succ_eq_append_getElem hil
    obtain ⟨M, hM⟩ : ∃ M, numB ((bs s).take i) = M := ⟨_, rfl⟩
    have hMlt : M < 256 ^ i := by
      have := numB_lt ((bs s).take i)
      rw [List.length_take, Nat.min_eq_left (by omega), hM] at this
      exact this
    obtain ⟨b, hb⟩ : ∃ b, ((bs s)[i]).toNat = b := ⟨_, rfl⟩
    have hb2 : b < 256 := by rw [← hb]; exact (bs s)[i].toNat_lt
    have hM' : numB ((bs s).take (i + 1)) = M + 256 ^ i * b := by
      rw [htake, numB_append, hM, List.length_take, Nat.min_eq_left (by omega)]
      simp [numB, hb]
    have hnext := ih (i + 1) (by omega)
    rw [hM'] at hnext
    rw [hM]
    obtain ⟨t, ht⟩ : ∃ t, 8 * i / 5 = t := ⟨_, rfl⟩
    rw [ht]
    have hacc := acc32_lt t M i (by omega) hMlt
    have hor := or_byte (M / 32 ^ t) b (8 * i - 5 * t) (by omega) hacc hb2
    rw [← acc32_more t M i b (by omega)] at hor
    have hrow : row32 m t M = row32 m t (M + 256 ^ i * b) := by unfold row32; rw [d32_more t M i b (by omega)]
    refine succ ?_
    simp only [radix_Base32.l0]
    refine pos (by omega) (pos (by omega) (pos (by rw [size_bs]; omega) (pos (by omega) ?_)))
    rw [bt_lt s i hil, hb, hor, hrow]
    have e8 : IntKind.u64.wrap (((8 * i - 5 * t : Nat) : Int) + 8) = ((8 * (i + 1) - 5 * t : Nat) : Int) := by
      rw [IntKind.wrap_u64]
      omega
    rw [e8]
    have hNlt : M + 256 ^ i * b < 256 ^ (i + 1) := by
      have := numB_lt ((bs s).take (i + 1))
      rw [List.length_take, Nat.min_eq_left (by omega), hM'] at this
      exact this
    refine inner s n m (M + 256 ^ i * b) i _ hNlt (by omega) hm.symm hs (8 * (i + 1) / 5 - t) t (8 * (i + 1) - 5 * (8 * (i + 1) / 5)) (by omega) (by omega) (by omega) ?_
    rw [show t + (8 * (i + 1) / 5 - t) = 8 * (i + 1) / 5 from by omega]
    exact hnext
/-- radix.Base32, any bytes. -/
theorem prog_enc (s : ByteArray) (hs : (bs s).length < 140737488351232) : Ev (fun k => radix_Base32.f k s) ⟨(enc (bs s)).toArray⟩ := by
  unfold radix_Base32.f
  have e : wrap64 (Int.tdiv (wrap64 (wrap64 (8 * (s.size : Int)) + 4)) 5) = (((8 * (bs s).length + 4) / 5 : Nat) : Int) := by
    rw [size_bs, w64 (x := 8 * _) (by omega) (by omega), w64 (x := _ + 4) (by omega) (by omega), Int.tdiv_eq_ediv_of_nonneg (by omega), w64 (by omega) (by omega)]
    omega
  rw [e, Int.toNat_natCast]
  refine pos (by omega) (pos (by omega) ?_)
  have h := outer s hs (bs s).length 0 (by omega)
  have e0 : row32 ((8 * (bs s).length + 4) / 5) 0 0 = List.replicate ((8 * (bs s).length + 4) / 5) 0 := by simp [row32, d32]
  rw [show 8 * 0 / 5 = 0 from rfl, List.take_zero, show numB [] = 0 from rfl, e0, show 0 / 32 ^ 0 = 0 from rfl, show 8 * 0 - 5 * 0 = 0 from rfl, Nat.sub_zero] at h
  rw [size_bs]
  exact h
theorem enc_len (l : List UInt8) : (enc l).length = (8 * l.length + 4) / 5 := by rw [enc, List.length_reverse, d32_len]
theorem lt32_val : ∀ v, v < 32 → 0 ≤ val (lt32 v) := by decide +kernel
theorem enc_val (l : List UInt8) : ∀ c ∈ enc l, 0 ≤ val c := by
  intro c hc
  rw [enc, List.mem_reverse, d32, List.mem_map] at hc
  obtain ⟨j, _, rfl⟩ := hc
  exact lt32_val _ (Nat.mod_lt _ (by omega))
end Go.Proofs.YtdjhhljijpadoaaDoor.B32
/- The document's Base32 writes the same letters (plain). -/
set_option linter.unusedVariables false
set_option linter.unusedSimpArgs false
namespace Go.Proofs.YtdjhhljijpadoaaDoor.B32
open Go.RowKit Go.Proofs.YtdjhhljijpadoaaDoor.Q Go.Proofs.YtdjhhljijpadoaaDoorW.PrintWords Go.Proofs.YtdjhhljijpadoaaDoorW.PrintLast Go.Proofs.YtdjhhljijpadoaaDoorW.PrintMore Go.Proofs.YtdjhhljijpadoaaDoor.Bytes Go.Proofs.YtdjhhljijpadoaaDoor.Evs
/-- The lowest bits of a number. -/
def bitsN (M n : Nat) : List Int := (List.range n).map fun i => ((M / 2 ^ i % 2 : Nat) : Int)
theorem bitsN_len (M n : Nat) : (bitsN M n).length = n := by simp [bitsN]
theorem bitsN_succ (M n : Nat) : bitsN M (n + 1) = bitsN M n ++ [((M / 2 ^ n % 2 : Nat) : Int)] := by
  unfold bitsN
  rw [List.range_succ, List.map_append]
  rfl
theorem numB_digit (l : List UInt8) : ∀ i (h : i < l.length), numB l / 256 ^ i % 256 = (l[i]).toNat := by
  induction l with
  | nil => intro i h; simp at h
  | cons c l ih =>
    intro i h
    have hc := c.toNat_lt
    match i with
    | 0 =>
      rw [numB, Nat.pow_zero, Nat.div_one]
      show _ = c.toNat
      omega
    | i + 1 =>
      have e : numB (c :: l) / 256 ^ (i + 1) = numB l / 256 ^ i := by
        have h256 : numB (c :: l) / 256 = numB l := by rw [numB]; omega
        rw [Nat.pow_succ, Nat.mul_comm (256 ^ i) 256, ← Nat.div_div_eq_div_mul, h256]
      rw [e]
      exact ih i (by simpa using h)
theorem bit_of (M i k : Nat) (hk : k < 8) : M / 2 ^ (8 * i + k) % 2 = M / 256 ^ i % 256 / 2 ^ k % 2 := by
  have e : M / 2 ^ (8 * i + k) = M / 256 ^ i / 2 ^ k := by
    rw [Nat.pow_add, ← Nat.div_div_eq_div_mul, show (256 : Nat) = 2 ^ 8 from rfl, ← Nat.pow_mul]
  rw [e]
  generalize M / 256 ^ i = D
  match k, hk with
  | 0, _ => omega
  | 1, _ => omega
  | 2, _ => omega
  | 3, _ => omega
  | 4, _ => omega
  | 5, _ => omega
  | 6, _ => omega
  | 7, _ => omega
theorem half (x k : Nat) (hx : x < 256) : wrap64 (Int.tdiv ((x / 2 ^ k : Nat) : Int) 2) = ((x / 2 ^ (k + 1) : Nat) : Int) := by
  have hq : x / 2 ^ k ≤ x := Nat.div_le_self _ _
  rw [Nat.pow_succ, ← Nat.div_div_eq_div_mul]
  generalize x / 2 ^ k = y at hq
  have : Int.tdiv (y : Int) 2 = ((y / 2 : Nat) : Int) := rfl
  rw [this, w64 (by omega) (by omega)]
theorem bits_l1 (s : ByteArray) (M i x : Nat) (R : List Int) (hx : x = M / 256 ^ i % 256) (hi : i < 1000000) (d : Nat) : ∀ k, k + d = 8 →
    Ev (fun f => depotref02_bits.l0 f s (bitsN M (8 * (i + 1))) ((i + 1 : Nat) : Int)) R →
    Ev (fun f => depotref02_bits.l1 f s (bitsN M (8 * i + k)) (i : Int) ((x / 2 ^ k : Nat) : Int) (k : Int)) R := by
  induction d with
  | zero =>
    intro k hk h
    obtain rfl : k = 8 := by omega
    refine succ ?_
    simp only [depotref02_bits.l1]
    refine neg (by omega) ?_
    rw [wr i (by omega)]
    exact h
  | succ d ih =>
    intro k hk h
    refine succ ?_
    simp only [depotref02_bits.l1]
    refine pos (by omega) (pos (by rw [bitsN_len]; omega) ?_)
    have e1 : Int.tmod ((x / 2 ^ k : Nat) : Int) 2 = ((M / 2 ^ (8 * i + k) % 2 : Nat) : Int) := by
      rw [bit_of M i k (by omega), ← hx]
      rfl
    have hx2 : x < 256 := by rw [hx]; exact Nat.mod_lt _ (by omega)
    have e2 := half x k hx2
    rw [e1, e2, wr k (by omega), ← bitsN_succ]
    exact ih (k + 1) (by omega) h
theorem bits_l0 (s : ByteArray) (hs : (bs s).length < 1000000) (d : Nat) : ∀ i, i + d = (bs s).length → Ev (fun f => depotref02_bits.l0 f s (bitsN (numB (bs s)) (8 * i)) (i : Int)) (bitsN (numB (bs s)) (8 * (bs s).length)) := by
  induction d with
  | zero =>
    intro i hi
    refine succ ?_
    simp only [depotref02_bits.l0]
    refine neg (by rw [size_bs]; omega) (now ?_)
    rw [show i = (bs s).length from by omega]
  | succ d ih =>
    intro i hi
    have hil : i < (bs s).length := by omega
    have hlt := (bs s)[i].toNat_lt
    refine succ ?_
    simp only [depotref02_bits.l0]
    refine pos (by rw [size_bs]; omega) (pos (by omega) ?_)
    rw [bt_lt s i hil, w64 (by omega) (by omega)]
    have := bits_l1 s (numB (bs s)) i ((bs s)[i]).toNat _ (numB_digit (bs s) i hil).symm (by omega) 8 0 (by omega) (ih (i + 1) (by omega))
    rw [Nat.pow_zero, Nat.div_one, Nat.add_zero] at this
    exact this
theorem bits_f (s : ByteArray) (hs : (bs s).length < 1000000) : Ev (fun f => depotref02_bits.f f s) (bitsN (numB (bs s)) (8 * (bs s).length)) := by
  unfold depotref02_bits.f
  exact bits_l0 s hs (bs s).length 0 (by omega)
theorem bitsN_get (M n i : Nat) (h : i < n) : rd (bitsN M n) (i : Int) = ((M / 2 ^ i % 2 : Nat) : Int) := by
  unfold rd bitsN
  rw [Int.toNat_natCast, List.getD_eq_getElem?_getD, List.getElem?_map, List.getElem?_range h]
  rfl
theorem mod_more (M a m : Nat) : M / 2 ^ a % 2 ^ (m + 1) = 2 * (M / 2 ^ (a + 1) % 2 ^ m) + M / 2 ^ a % 2 := by
  have e : M / 2 ^ (a + 1) = M / 2 ^ a / 2 := by rw [Nat.pow_succ, ← Nat.div_div_eq_div_mul]
  rw [e]
  generalize M / 2 ^ a = D
  rw [Nat.pow_succ, Nat.mul_comm (2 ^ m) 2, Nat.mod_mul]
  omega
/-- Letters so far, as numbers. -/
def lets (t N : Nat) : List Int := (d32 t N).map fun c => (c.toNat : Int)
theorem lets_len (t N : Nat) : (lets t N).length = t := by rw [lets, List.length_map, d32_len]
theorem b_l1 (M n t : Nat) (R : ByteArray) (hM : M < 2 ^ n) (hn : n < 10000000) (ht : 5 * t < n) (d : Nat) : d ≤ 5 →
    Ev (fun f => depotref02_Base32.l0 f (bitsN M n) (lets (t + 1) M) ((5 * (t + 1) : Nat) : Int)) R →
    Ev (fun f => depotref02_Base32.l1 f (bitsN M n) (lets t M) ((5 * t : Nat) : Int) ((M / 2 ^ (5 * t + d) % 2 ^ (5 - d) : Nat) : Int) ((d : Int) - 1)) R := by
  induction d with
  | zero =>
    intro _ h
    refine succ ?_
    simp only [depotref02_Base32.l1]
    refine neg (by omega) ?_
    have hlt : M / 2 ^ (5 * t + 0) % 2 ^ (5 - 0) < 32 := Nat.mod_lt _ (by decide)
    refine pos (by omega) (pos (by omega) (pos (by rw [lets_len]; omega) ?_))
    rw [bt_letter]
    have e1 : wrap64 (((5 * t : Nat) : Int) + 5) = ((5 * (t + 1) : Nat) : Int) := by rw [w64 (by omega) (by omega)]; omega
    have e2 : lets t M ++ [((lt32 (M / 2 ^ (5 * t + 0) % 2 ^ (5 - 0))).toNat : Int)] = lets (t + 1) M := by
      unfold lets
      rw [d32_succ, List.map_append]
      congr 3
      rw [show (32 : Nat) ^ t = 2 ^ (5 * t) from by rw [show (32 : Nat) = 2 ^ 5 from rfl, ← Nat.pow_mul]]
      rfl
    rw [e1, e2]
    exact h
  | succ d ih =>
    intro hd h
    have e0 : ((d + 1 : Nat) : Int) - 1 = (d : Int) := by omega
    have e1 : wrap64 (((5 * t : Nat) : Int) + (d : Int)) = ((5 * t + d : Nat) : Int) := by rw [w64 (by omega) (by omega)]; omega
    have e3 : wrap64 ((d : Int) - 1) = (d : Int) - 1 := w64 (by omega) (by omega)
    have z1 : 5 - (d + 1) + 1 = 5 - d := by omega
    have z2 : 5 * t + d + 1 = 5 * t + (d + 1) := by omega
    have z3 : 5 - (d + 1) ≤ 5 := by omega
    have h2 := ih (by omega) h
    have hlt2 : M / 2 ^ (5 * t + (d + 1)) % 2 ^ (5 - (d + 1)) < 32 := Nat.lt_of_lt_of_le (Nat.mod_lt _ (Nat.pow_pos (by decide))) (Nat.pow_le_pow_right (by decide) z3)
    have hmm := mod_more M (5 * t + d) (5 - (d + 1))
    rw [z1, z2] at hmm
    refine succ ?_
    simp only [depotref02_Base32.l1]
    rw [e0, e1, e3]
    refine pos (Int.natCast_nonneg _) ?_
    rw [hmm] at h2
    clear hmm
    generalize M / 2 ^ (5 * t + (d + 1)) % 2 ^ (5 - (d + 1)) = v at hlt2 h2 ⊢
    have e2 : wrap64 ((v : Int) * 2) = ((2 * v : Nat) : Int) := by rw [w64 (by omega) (by omega)]; omega
    rw [e2]
    by_cases hb : 5 * t + d < n
    · refine pos (by rw [bitsN_len]; omega) (pos (by omega) ?_)
      rw [bitsN_get _ _ _ hb]
      have hbit : M / 2 ^ (5 * t + d) % 2 < 2 := Nat.mod_lt _ (by omega)
      generalize M / 2 ^ (5 * t + d) % 2 = u at hbit h2 ⊢
      have e4 : wrap64 (((2 * v : Nat) : Int) + (u : Int)) = ((2 * v + u : Nat) : Int) := by rw [w64 (by omega) (by omega)]; omega
      rw [e4]
      exact h2
    · refine neg (by rw [bitsN_len]; omega) ?_
      have hz : M / 2 ^ (5 * t + d) = 0 := Nat.div_eq_of_lt (Nat.lt_of_lt_of_le hM (Nat.pow_le_pow_right (by omega) (by omega)))
      rw [hz] at h2
      exact h2
/-- The row turned so far. -/
theorem b_l2 (L : List UInt8) (hL : L.length < 10000000) (d : Nat) : ∀ i, i + d = L.length →
    Ev (fun f => depotref02_Base32.l2 f (L.map fun c => (c.toNat : Int)) (List.replicate d 0 ++ (L.take i).reverse.map fun c => (c.toNat : Int)) (i : Int)) ⟨L.reverse.toArray⟩ := by
  induction d with
  | zero =>
    intro i hi
    refine succ ?_
    simp only [depotref02_Base32.l2]
    refine neg (by rw [List.length_map]; omega) (now (congrArg some ?_))
    rw [List.replicate_zero, List.nil_append, List.take_of_length_le (by omega)]
    exact nums_row _
  | succ d ih =>
    intro i hi
    have hil : i < L.length := by omega
    refine succ ?_
    simp only [depotref02_Base32.l2]
    have e1 : wrap64 (((L.map fun c => (c.toNat : Int)).length : Int) - 1) = ((L.length - 1 : Nat) : Int) := by rw [List.length_map, w64 (by omega) (by omega)]; omega
    have e2 : wrap64 (((L.length - 1 : Nat) : Int) - (i : Int)) = (d : Int) := by rw [w64 (by omega) (by omega)]; omega
    rw [e1, e2, wr i (by omega)]
    refine pos (by rw [List.length_map]; omega) (pos (by omega) (pos (by omega) (pos (by rw [List.length_append, List.length_replicate]; omega) ?_)))
    have hr : rd (L.map fun c => (c.toNat : Int)) (i : Int) = ((L[i]).toNat : Int) := by
      unfold rd
      rw [Int.toNat_natCast, List.getD_eq_getElem?_getD, List.getElem?_map, List.getElem?_eq_getElem hil]
      rfl
    rw [hr, Int.toNat_natCast]
    have es : (List.replicate (d + 1) (0 : Int) ++ (L.take i).reverse.map fun c => (c.toNat : Int)).set d ((L[i]).toNat : Int) = List.replicate d 0 ++ (L.take (i + 1)).reverse.map fun c => (c.toNat : Int) := by
      rw [List.take_succ_eq_append_getElem hil, List.reverse_append, List.reverse_singleton, List.singleton_append, List.map_cons, List.replicate_succ', List.append_assoc, List.set_append_right _ _ (by rw [List.length_replicate]; exact Nat.le_refl _)]
      simp
    rw [es]
    exact ih (i + 1) (by omega)
theorem b_l0 (M n m : Nat) (hM : M < 2 ^ n) (hn : n < 10000000) (hm : m = (n + 4) / 5) (d : Nat) : ∀ t, t + d = m →
    Ev (fun f => depotref02_Base32.l0 f (bitsN M n) (lets t M) ((5 * t : Nat) : Int)) ⟨(d32 m M).reverse.toArray⟩ := by
  induction d with
  | zero =>
    intro t ht
    obtain rfl : t = m := by omega
    refine succ ?_
    simp only [depotref02_Base32.l0]
    refine neg (by rw [bitsN_len]; omega) (pos (by omega) (pos (by rw [lets_len]; omega) ?_))
    have := b_l2 (d32 t M) (by rw [d32_len]; omega) t 0 (by rw [d32_len]; omega)
    rw [List.take_zero, List.reverse_nil, List.map_nil, List.append_nil] at this
    rw [lets_len, Int.toNat_natCast]
    exact this
  | succ d ih =>
    intro t ht
    refine succ ?_
    simp only [depotref02_Base32.l0]
    refine pos (by rw [bitsN_len]; omega) ?_
    have := b_l1 M n t _ hM hn (by omega) 5 (Nat.le_refl _) (ih (t + 1) (by omega))
    rw [Nat.sub_self, Nat.pow_zero, Nat.mod_one] at this
    exact this
/-- The document's Base32, any bytes. -/
theorem ref_enc (s : ByteArray) (hs : (bs s).length < 1000000) : Ev (fun f => depotref02_Base32.f f s) ⟨(enc (bs s)).toArray⟩ := by
  unfold depotref02_Base32.f
  refine Ev.bind (bits_f s hs) ?_
  have hM : numB (bs s) < 2 ^ (8 * (bs s).length) := by
    have := numB_lt (bs s)
    rw [show (256 : Nat) = 2 ^ 8 from rfl, ← Nat.pow_mul] at this
    exact this
  exact b_l0 (numB (bs s)) (8 * (bs s).length) _ hM (by omega) rfl _ 0 (Nat.zero_add _)
end Go.Proofs.YtdjhhljijpadoaaDoor.B32
/- seal.Sign and the document's Sign, walked. -/
namespace Go.Proofs.YtdjhhljijpadoaaDoor.Sha
open Go.RowKit Go.Proofs.YtdjhhljijpadoaaDoor.Q Go.Proofs.YtdjhhljijpadoaaDoorW.PrintWords Go.Proofs.YtdjhhljijpadoaaDoorW.PrintLast Go.Proofs.YtdjhhljijpadoaaDoorW.PrintMore Go.Proofs.YtdjhhljijpadoaaDoor.Bytes
set_option linter.unusedVariables false
set_option linter.unusedSimpArgs false
theorem mac_len (k t : List UInt8) : (mac k t).length = 32 := of_len _
/-- The signature. -/
def signB (signer key text : ByteArray) : ByteArray := signer ++ (⟨#[58]⟩ : ByteArray) ++ ⟨(B32.enc (mac (bs key) (bs text))).toArray⟩
theorem enc_size (key text : ByteArray) : (⟨(B32.enc (mac (bs key) (bs text))).toArray⟩ : ByteArray).size = 52 := by
  rw [size_bs, bs_mk, B32.enc_len, mac_len]
set_option maxRecDepth 100000 in
set_option maxHeartbeats 8000000 in
theorem sign_good (signer key text : ByteArray) (w : World) (hG : Glob w) (hs : Signer.signNo (bs signer) = 0) (hk : key.size < 1152921504606846976) (ht : text.size < 1152921504606846000) : Calls Tryd.prog 7 #[.string signer, .string key, .string text] w fun e w' => e = .returned (.tuple #[.string (signB signer key text), .int .i64 0]) ∧ Below w.heap.size w w' := by
  have hsl := Signer.signNo_len hs
  obtain ⟨k1, hk1⟩ := Signer.prog_signer signer (by omega)
  have h1 := hk1 k1 (Nat.le_refl _)
  rw [hs] at h1
  have C1 := Aside0.mk (fun (W : World) => show Calls Tryd.prog 16 #[.string signer] W fun e w' => e = .returned (.int .i64 0) ∧ Below W.heap.size W w' from (info_CheckSigner.calls k1 signer 0 W h1).mono fun e w' h => ⟨h.1, h.2.below⟩)
  have CM := Aside0.mk (fun (W : World) (h : Below w.heap.size w W) => mac_calls key text W (hG.below h hG.lt) hk ht)
  obtain ⟨M, hM⟩ : ∃ M, mac (bs key) (bs text) = M := ⟨_, rfl⟩
  have HML := Aside0.mk (show M.length = 32 from by rw [← hM]; exact mac_len _ _)
  obtain ⟨kb, hkb⟩ := B32.prog_enc ⟨M.toArray⟩ (by rw [bs_mk, HML.out]; decide)
  have h5 := hkb kb (Nat.le_refl _)
  rw [bs_mk] at h5
  have hbz : (⟨(B32.enc M).toArray⟩ : ByteArray).size = 52 := by rw [size_bs, bs_mk, B32.enc_len, HML.out]
  obtain ⟨E, hE⟩ : ∃ E : ByteArray, (⟨(B32.enc M).toArray⟩ : ByteArray) = E := ⟨_, rfl⟩
  have HS := Aside0.mk (show signB signer key text = signer ++ (⟨#[58]⟩ : ByteArray) ++ E from by unfold signB; rw [hM, hE])
  rw [hE] at h5 hbz
  rw [hM] at CM
  have C5 := Aside0.mk (fun W => radix_Base32.calls kb ⟨M.toArray⟩ E W h5)
  have HR28 : Aside0 ((Tryd.prog.info? 29).map (·.size) = some 32) := ⟨by kernel_rfl⟩
  have HB0 := Aside0.mk (Below.refl w.heap.size w)
  have hss : signer.size ≤ 32 := by rw [size_bs]; exact hsl
  have s1 : (signer.size + 1 ≤ 9223372036854775807) = True := eq_true (by omega)
  have s2 : (9223372036854775807 < signer.size + 1) = False := eq_false (by omega)
  have s3 : (signer.size + 1 + 52 ≤ 9223372036854775807) = True := eq_true (by omega)
  have s4 : (9223372036854775807 < signer.size + 1 + 52) = False := eq_false (by omega)
  have s5 : (signer.size + 1 + E.size ≤ 9223372036854775807) = True := eq_true (by omega)
  have s6 : (9223372036854775807 < signer.size + 1 + E.size) = False := eq_false (by omega)
  clear hG hs hk1 h1 hkb h5 hM hE hbz hk ht
  rw [HS.out]
  go_enter Tryd.func7, Tryd.ntmps7
  go_wp2_with (first
    | (go_at_call 16; ((with_reducible refine (C1.out _).mono ?_)); rintro e w2 ⟨rfl, hb2⟩; have HB2 := Aside0.mk (HB0.out.trans (hb2.mono HB0.out.size)); clear hb2)
    | (go_at_call 9; ((with_reducible refine (CM.out w2 HB2.out).mono ?_)); rintro e w10 ⟨rfl, hb10⟩; have HB10 := Aside0.mk (HB2.out.trans (hb10.mono HB2.out.size)); clear hb10)
    | ((with_reducible refine gate_store (t := 29) (p := 9) rfl ?_); refine wpList_store_row' rfl 29 (.tmp 9) (.tmp 17) rfl w10.heap.size 29 (List.replicate 32 (Value.int .u8 0)).toArray (M.map bcell).toArray rfl rfl (World.alloc_heap_new w10 _) (by rw [List.size_toArray, List.length_map, HML.out]; exact HR28.out) (by rw [List.size_toArray, List.size_toArray, List.length_map, HML.out]; rfl) (all_oneCell_toArray fun u hu => by obtain ⟨y, _, rfl⟩ := List.mem_map.1 hu; rfl) ?_; intro w11 hw11; have hcv11 := conv32 w11 w10.heap.size M 29 HML.out (by rw [hw11]; exact setRow_heap _ _ _ _ _ _ (World.alloc_heap_new w10 _)); have HB11 : Aside0 (Below w.heap.size w w11) := ⟨by rw [hw11]; exact below_setRow (HB10.out.alloc HB10.out.size _) HB10.out.size _⟩; clear hw11)
    | (go_at_call 17; ((with_reducible refine (C5.out w11).mono ?_)); rintro e w13 ⟨rfl, hb13⟩; have HB13 := Aside0.mk (HB11.out.trans (hb13.mono HB11.out.size)); clear hb13 hcv11))
  go_ret2
  exact ⟨rfl, HB13.out⟩
set_option maxRecDepth 100000 in
set_option maxHeartbeats 8000000 in
theorem sign_bad (signer key text : ByteArray) (w : World) (e1 : Int) (he : e1 ≠ 0) (hs : Signer.signNo (bs signer) = e1) (hz : signer.size ≤ 140737488355000) : Calls Tryd.prog 7 #[.string signer, .string key, .string text] w fun e w' => e = .returned (.tuple #[.string ⟨#[]⟩, .int .i64 e1]) ∧ Below w.heap.size w w' := by
  obtain ⟨k1, hk1⟩ := Signer.prog_signer signer (by rw [← size_bs]; exact hz)
  have h1 := hk1 k1 (Nat.le_refl _)
  rw [hs] at h1
  have C1 := Aside0.mk (fun (W : World) => show Calls Tryd.prog 16 #[.string signer] W fun e w' => e = .returned (.int .i64 e1) ∧ Below W.heap.size W w' from (info_CheckSigner.calls k1 signer e1 W h1).mono fun e w' h => ⟨h.1, h.2.below⟩)
  have HB0 := Aside0.mk (Below.refl w.heap.size w)
  have d1 : decide (e1 = 0) = false := decide_eq_false he
  clear hs hk1 h1
  go_enter Tryd.func7, Tryd.ntmps7
  go_wp2_with (first
    | (go_at_call 16; ((with_reducible refine (C1.out _).mono ?_)); rintro e w2 ⟨rfl, hb2⟩; have HB2 := Aside0.mk (HB0.out.trans (hb2.mono HB0.out.size)); clear hb2))
  go_ret2
  exact ⟨rfl, HB2.out⟩
set_option maxRecDepth 100000 in
set_option maxHeartbeats 8000000 in
theorem rsign_good (signer key text : ByteArray) (w : World) (hs : Signer.signNo (bs signer) = 0) (hk : key.size < 1152921504606846976) (ht : text.size < 1152921504606846000) : Calls Tryd.prog 8 #[.string signer, .string key, .string text] w fun e w' => e = .returned (.tuple #[.string (signB signer key text), .int .i64 0]) ∧ Below w.heap.size w w' := by
  have hsl := Signer.signNo_len hs
  obtain ⟨k1, hk1⟩ := Signer.ref_signer signer (by omega)
  have h1 := hk1 k1 (Nat.le_refl _)
  rw [hs] at h1
  have C1 := Aside0.mk (fun (W : World) => show Calls Tryd.prog 18 #[.string signer] W fun e w' => e = .returned (.int .i64 0) ∧ Below W.heap.size W w' from (depotref15_CheckSigner.calls k1 signer 0 W h1).mono fun e w' h => ⟨h.1, h.2.below⟩)
  have CM := Aside0.mk (fun (W : World) => rmac_calls key text W hk ht)
  obtain ⟨M, hM⟩ : ∃ M, mac (bs key) (bs text) = M := ⟨_, rfl⟩
  have HML := Aside0.mk (show M.length = 32 from by rw [← hM]; exact mac_len _ _)
  obtain ⟨kb, hkb⟩ := B32.ref_enc ⟨M.toArray⟩ (by rw [bs_mk, HML.out]; decide)
  have h5 := hkb kb (Nat.le_refl _)
  rw [bs_mk] at h5
  have hbz : (⟨(B32.enc M).toArray⟩ : ByteArray).size = 52 := by rw [size_bs, bs_mk, B32.enc_len, HML.out]
  obtain ⟨E, hE⟩ : ∃ E : ByteArray, (⟨(B32.enc M).toArray⟩ : ByteArray) = E := ⟨_, rfl⟩
  have HS := Aside0.mk (show signB signer key text = signer ++ (⟨#[58]⟩ : ByteArray) ++ E from by unfold signB; rw [hM, hE])
  rw [hE] at h5 hbz
  rw [hM] at CM
  have C5 := Aside0.mk (fun W => depotref02_Base32.calls kb ⟨M.toArray⟩ E W h5)
  have HR28 : Aside0 ((Tryd.prog.info? 28).map (·.size) = some 32) := ⟨by kernel_rfl⟩
  have HB0 := Aside0.mk (Below.refl w.heap.size w)
  have hss : signer.size ≤ 32 := by rw [size_bs]; exact hsl
  have s1 : (signer.size + 1 ≤ 9223372036854775807) = True := eq_true (by omega)
  have s2 : (9223372036854775807 < signer.size + 1) = False := eq_false (by omega)
  have s5 : (signer.size + 1 + E.size ≤ 9223372036854775807) = True := eq_true (by omega)
  have s6 : (9223372036854775807 < signer.size + 1 + E.size) = False := eq_false (by omega)
  clear hs hk1 h1 hkb h5 hM hE hbz hk ht
  rw [HS.out]
  go_enter Tryd.func8, Tryd.ntmps8
  go_wp2_with (first
    | (go_at_call 18; ((with_reducible refine (C1.out _).mono ?_)); rintro e w2 ⟨rfl, hb2⟩; have HB2 := Aside0.mk (HB0.out.trans (hb2.mono HB0.out.size)); clear hb2)
    | (go_at_call 10; ((with_reducible refine (CM.out w2).mono ?_)); rintro e w10 ⟨rfl, hb10⟩; have HB10 := Aside0.mk (HB2.out.trans (hb10.mono HB2.out.size)); clear hb10)
    | ((with_reducible refine gate_store (t := 28) (p := 9) rfl ?_); refine wpList_store_row' rfl 28 (.tmp 9) (.tmp 17) rfl w10.heap.size 28 (List.replicate 32 (Value.int .u8 0)).toArray (M.map bcell).toArray rfl rfl (World.alloc_heap_new w10 _) (by rw [List.size_toArray, List.length_map, HML.out]; exact HR28.out) (by rw [List.size_toArray, List.size_toArray, List.length_map, HML.out]; rfl) (all_oneCell_toArray fun u hu => by obtain ⟨y, _, rfl⟩ := List.mem_map.1 hu; rfl) ?_; intro w11 hw11; have hcv11 := conv32 w11 w10.heap.size M 28 HML.out (by rw [hw11]; exact setRow_heap _ _ _ _ _ _ (World.alloc_heap_new w10 _)); have HB11 : Aside0 (Below w.heap.size w w11) := ⟨by rw [hw11]; exact below_setRow (HB10.out.alloc HB10.out.size _) HB10.out.size _⟩; clear hw11)
    | (go_at_call 19; ((with_reducible refine (C5.out w11).mono ?_)); rintro e w13 ⟨rfl, hb13⟩; have HB13 := Aside0.mk (HB11.out.trans (hb13.mono HB11.out.size)); clear hb13 hcv11))
  go_ret2
  exact ⟨rfl, HB13.out⟩
set_option maxRecDepth 100000 in
set_option maxHeartbeats 8000000 in
theorem rsign_bad (signer key text : ByteArray) (w : World) (e1 : Int) (he : e1 ≠ 0) (hs : Signer.signNo (bs signer) = e1) (hz : signer.size ≤ 140737488355000) : Calls Tryd.prog 8 #[.string signer, .string key, .string text] w fun e w' => e = .returned (.tuple #[.string ⟨#[]⟩, .int .i64 e1]) ∧ Below w.heap.size w w' := by
  obtain ⟨k1, hk1⟩ := Signer.ref_signer signer (by rw [← size_bs]; exact hz)
  have h1 := hk1 k1 (Nat.le_refl _)
  rw [hs] at h1
  have C1 := Aside0.mk (fun (W : World) => show Calls Tryd.prog 18 #[.string signer] W fun e w' => e = .returned (.int .i64 e1) ∧ Below W.heap.size W w' from (depotref15_CheckSigner.calls k1 signer e1 W h1).mono fun e w' h => ⟨h.1, h.2.below⟩)
  have HB0 := Aside0.mk (Below.refl w.heap.size w)
  have d1 : decide (e1 = 0) = false := decide_eq_false he
  clear hs hk1 h1
  go_enter Tryd.func8, Tryd.ntmps8
  go_wp2_with (first
    | (go_at_call 18; ((with_reducible refine (C1.out _).mono ?_)); rintro e w2 ⟨rfl, hb2⟩; have HB2 := Aside0.mk (HB0.out.trans (hb2.mono HB0.out.size)); clear hb2))
  go_ret2
  exact ⟨rfl, HB2.out⟩
end Go.Proofs.YtdjhhljijpadoaaDoor.Sha
/- seal.Ring: Add, right. -/
namespace Go.Proofs.YtdjhhljijpadoaaDoor.Table
open Go.Shelf Go.Proofs.YtdjhhljijpadoaaDoor.Lay2 Go.Proofs.YtdjhhljijpadoaaDoor.Sha Go.RowKit Go.Proofs.YtdjhhljijpadoaaDoor.Q Go.Proofs.YtdjhhljijpadoaaDoorW.PrintWords Go.Proofs.YtdjhhljijpadoaaDoorW.PrintLast Go.Proofs.YtdjhhljijpadoaaDoorW.PrintMore Go.Proofs.YtdjhhljijpadoaaDoor.Bytes
set_option linter.unusedVariables false
set_option linter.unusedSimpArgs false
/-- The blocks of a ring. -/
def Rw (r p : Nat) (vk vv : Value) (k : Nat) : Prop := k = r ∨ Ow p vk vv k
theorem Rg.fr {S : Nat → Prop} {w W : World} {r p : Nat} {vk vv : Value} {ks vs : List ByteArray} (h : Rg w r p vk vv ks vs) (hb : Fr S w W) (hS : ∀ g, S g → ¬ Rw r p vk vv g) : Rg W r p vk vv ks vs :=
  ⟨(hb.block _ (Array.getElem?_eq_some_iff.1 h.lies).1 (fun s => hS _ s (Or.inl rfl))).trans h.lies, h.tb.fr hb (fun g s o => hS g s (Or.inr o)), h.rp, h.kr, h.vr⟩
theorem Rg.below {w W : World} {r p : Nat} {vk vv : Value} {ks vs : List ByteArray} (h : Rg w r p vk vv ks vs) (hb : Below w.heap.size w W) : Rg W r p vk vv ks vs :=
  ⟨(hb.block _ (Array.getElem?_eq_some_iff.1 h.lies).1).trans h.lies, h.tb.below hb, h.rp, h.kr, h.vr⟩
theorem Rg.turn {w W : World} {r p : Nat} {vk vv vk' vv' : Value} {ks vs ks' vs' : List ByteArray} (h : Rg w r p vk vv ks vs) (ht : Tb W p vk' vv' ks' vs') (hf : Fr (Ow p vk vv) w W) (hk : ∀ g, Of vk' g → Of vk g ∨ w.heap.size ≤ g) (hv : ∀ g, Of vv' g → Of vv g ∨ w.heap.size ≤ g) : Rg W r p vk' vv' ks' vs' := by
  have hr := (Array.getElem?_eq_some_iff.1 h.lies).1
  refine ⟨(hf.block r hr ?_).trans h.lies, ht, h.rp, fun hg => (hk r hg).elim h.kr (by omega), fun hg => (hv r hg).elim h.vr (by omega)⟩
  rintro (e | e | e)
  · exact h.rp e
  · exact h.kr e
  · exact h.vr e
def addR (ks vs : List ByteArray) (s key : ByteArray) : Int × List ByteArray × List ByteArray :=
  if Signer.signNo (bs s) ≠ 0 then (Signer.signNo (bs s), ks, vs)
  else if (getV ks vs s).2 = true ∧ (getV ks vs s).1 ≠ key then (8, ks, vs)
  else (0, putK ks s, putV ks vs s key)
set_option maxRecDepth 100000 in
set_option maxHeartbeats 4000000 in
theorem add_calls (w : World) (r p : Nat) (vk vv : Value) (ks vs : List ByteArray) (s key : ByteArray) (h : Rg w r p vk vv ks vs) (hlen : vs.length = ks.length) (hl : (ks.length + 1) * 16 ≤ 140737488355328) (hz : s.size ≤ 140737488355000) :
    Calls Tryd.prog 13 #[.pointer (some ⟨r, 0, none⟩), .string s, .string key] w fun e w' => ∃ vk' vv', e = .returned (.int .i64 (addR ks vs s key).1) ∧ Rg w' r p vk' vv' (addR ks vs s key).2.1 (addR ks vs s key).2.2 ∧ Fr (Ow p vk vv) w w' ∧ (∀ g, Of vk' g → Of vk g ∨ w.heap.size ≤ g) ∧ (∀ g, Of vv' g → Of vv g ∨ w.heap.size ≤ g) := by
  obtain ⟨k1, hk1⟩ := Signer.prog_signer s (by rw [← size_bs]; exact hz)
  have h1 := hk1 k1 (Nat.le_refl _)
  obtain ⟨R, hR⟩ : ∃ R, addR ks vs s key = R := ⟨_, rfl⟩
  have HR : R = if Signer.signNo (bs s) ≠ 0 then (Signer.signNo (bs s), ks, vs) else if (getV ks vs s).2 = true ∧ (getV ks vs s).1 ≠ key then (8, ks, vs) else (0, putK ks s, putV ks vs s key) := hR.symm
  rw [hR]
  clear hR hk1
  obtain ⟨sg, hsg⟩ : ∃ a, Signer.signNo (bs s) = a := ⟨_, rfl⟩
  rw [hsg] at h1 HR
  have C1 := Aside0.mk (fun (W : World) => show Calls Tryd.prog 16 #[.string s] W fun e w' => e = .returned (.int .i64 sg) ∧ Below W.heap.size W w' from (info_CheckSigner.calls k1 s sg W h1).mono fun e w' h => ⟨h.1, h.2.below⟩)
  have HT := Aside0.mk h
  have hrz : r < w.heap.size := (Array.getElem?_eq_some_iff.1 h.lies).1
  have c0 : w.cell? ⟨r, 0, none⟩ = some (.pointer (some ⟨p, 0, none⟩)) := by simp [World.cell?, h.lies]
  have HC0 := Aside0.mk c0
  clear h1 hsg c0
  by_cases hg : sg = 0
  · subst hg
    rw [if_neg (by intro h; exact h rfl)] at HR
    obtain ⟨gv, hgv⟩ : ∃ a, (getV ks vs s).1 = a := ⟨_, rfl⟩
    obtain ⟨gk, hgk⟩ : ∃ a, (getV ks vs s).2 = a := ⟨_, rfl⟩
    have CG := Aside0.mk (fun (W : World) (hb : Below w.heap.size w W) => get_calls W p vk vv ks vs s (h.tb.below hb) hlen (by omega))
    simp only [hgv, hgk] at CG HR
    have CP := Aside0.mk (fun (W : World) (hb : Below w.heap.size w W) => put_calls W p vk vv ks vs s key (h.tb.below hb) hlen hl)
    have FIN := Aside0.mk (fun (W W2 : World) (vk' vv' : Value) (hb : Below w.heap.size w W) (ht : Tb W2 p vk' vv' (putK ks s) (putV ks vs s key)) (hf : Fr (Ow p vk vv) W W2) (hk : ∀ g, Of vk' g → Of vk g ∨ W.heap.size ≤ g) (hv : ∀ g, Of vv' g → Of vv g ∨ W.heap.size ≤ g) => (show Rg W2 r p vk' vv' (putK ks s) (putV ks vs s key) ∧ Fr (Ow p vk vv) w W2 ∧ (∀ g, Of vk' g → Of vk g ∨ w.heap.size ≤ g) ∧ (∀ g, Of vv' g → Of vv g ∨ w.heap.size ≤ g) from ⟨(h.below hb).turn ht hf hk hv, (Fr.of_below hb).trans hf (fun g hg => Or.inl hg), fun g hg => (hk g hg).imp id (Nat.le_trans hb.size), fun g hg => (hv g hg).imp id (Nat.le_trans hb.size)⟩))
    obtain ⟨nk, hnk⟩ : ∃ a, putK ks s = a := ⟨_, rfl⟩
    obtain ⟨nv, hnv⟩ : ∃ a, putV ks vs s key = a := ⟨_, rfl⟩
    obtain ⟨nb, hnb⟩ : ∃ a, (!hasIt ks s) = a := ⟨_, rfl⟩
    simp only [hnk, hnv, hnb] at CP FIN HR
    clear hgv hgk hnk hnv hnb h hlen hl hz k1
    cases gk with
    | true =>
      by_cases he : gv = key
      · subst he
        rw [if_neg (by intro h; exact h.2 rfl)] at HR
        subst HR
        go_enter Tryd.func13, Tryd.ntmps13
        go_wp2_with (first
          | (go_at_call 16; ((with_reducible refine (C1.out _).mono ?_)); rintro e w2 ⟨rfl, hb⟩; have HB2 := Aside0.mk hb; have d2 : w2.cell? ⟨r, 0, none⟩ = some (.pointer (some ⟨p, 0, none⟩)) := (by unfold World.cell?; rw [hb.block r hrz]; exact HC0.out); clear hb)
          | (go_at_call 27; ((with_reducible refine (CG.out w2 HB2.out).mono ?_)); rintro e w3 ⟨rfl, hb⟩; have HB3 := Aside0.mk (HB2.out.trans (hb.mono HB2.out.size)); have d3 : w3.cell? ⟨r, 0, none⟩ = some (.pointer (some ⟨p, 0, none⟩)) := (by unfold World.cell?; rw [HB3.out.block r hrz]; exact HC0.out); clear hb)
          | (go_at_call 28; ((with_reducible refine (CP.out w3 HB3.out).mono ?_)); rintro e w4 ⟨vk', vv', rfl, ht, hf, hk, hv⟩; have HT4 := Aside0.mk ht; have HF4 := Aside0.mk hf; have HK4 := Aside0.mk hk; have HV4 := Aside0.mk hv; clear ht hf hk hv))
        go_ret
        obtain ⟨x1, x2, x3, x4⟩ := FIN.out w3 w4 vk' vv' HB3.out HT4.out HF4.out HK4.out HV4.out
        exact ⟨_, _, rfl, x1, x2, x3, x4⟩
      · rw [if_pos ⟨rfl, he⟩] at HR
        subst HR
        have d1 : (gv.toList == key.toList) = false := by
          rw [beq_eq_false_iff_ne, toList_bs, toList_bs]
          exact fun e => he (bs_inj e)
        go_enter Tryd.func13, Tryd.ntmps13
        go_wp2_with (first
          | (go_at_call 16; ((with_reducible refine (C1.out _).mono ?_)); rintro e w2 ⟨rfl, hb⟩; have HB2 := Aside0.mk hb; have d2 : w2.cell? ⟨r, 0, none⟩ = some (.pointer (some ⟨p, 0, none⟩)) := (by unfold World.cell?; rw [hb.block r hrz]; exact HC0.out); clear hb)
          | (go_at_call 27; ((with_reducible refine (CG.out w2 HB2.out).mono ?_)); rintro e w3 ⟨rfl, hb⟩; have HB3 := Aside0.mk (HB2.out.trans (hb.mono HB2.out.size)); have d3 : w3.cell? ⟨r, 0, none⟩ = some (.pointer (some ⟨p, 0, none⟩)) := (by unfold World.cell?; rw [HB3.out.block r hrz]; exact HC0.out); clear hb)
          | (go_at_call 28; ((with_reducible refine (CP.out w3 HB3.out).mono ?_)); rintro e w4 ⟨vk', vv', rfl, ht, hf, hk, hv⟩; have HT4 := Aside0.mk ht; have HF4 := Aside0.mk hf; have HK4 := Aside0.mk hk; have HV4 := Aside0.mk hv; clear ht hf hk hv))
        go_ret
        exact ⟨_, _, rfl, HT.out.below HB3.out, Fr.of_below HB3.out, fun g hg => Or.inl hg, fun g hg => Or.inl hg⟩
    | false =>
      rw [if_neg (by intro h; exact Bool.noConfusion h.1)] at HR
      subst HR
      go_enter Tryd.func13, Tryd.ntmps13
      go_wp2_with (first
          | (go_at_call 16; ((with_reducible refine (C1.out _).mono ?_)); rintro e w2 ⟨rfl, hb⟩; have HB2 := Aside0.mk hb; have d2 : w2.cell? ⟨r, 0, none⟩ = some (.pointer (some ⟨p, 0, none⟩)) := (by unfold World.cell?; rw [hb.block r hrz]; exact HC0.out); clear hb)
          | (go_at_call 27; ((with_reducible refine (CG.out w2 HB2.out).mono ?_)); rintro e w3 ⟨rfl, hb⟩; have HB3 := Aside0.mk (HB2.out.trans (hb.mono HB2.out.size)); have d3 : w3.cell? ⟨r, 0, none⟩ = some (.pointer (some ⟨p, 0, none⟩)) := (by unfold World.cell?; rw [HB3.out.block r hrz]; exact HC0.out); clear hb)
          | (go_at_call 28; ((with_reducible refine (CP.out w3 HB3.out).mono ?_)); rintro e w4 ⟨vk', vv', rfl, ht, hf, hk, hv⟩; have HT4 := Aside0.mk ht; have HF4 := Aside0.mk hf; have HK4 := Aside0.mk hk; have HV4 := Aside0.mk hv; clear ht hf hk hv))
      go_ret
      obtain ⟨x1, x2, x3, x4⟩ := FIN.out w3 w4 vk' vv' HB3.out HT4.out HF4.out HK4.out HV4.out
      exact ⟨_, _, rfl, x1, x2, x3, x4⟩
  · rw [if_pos hg] at HR
    subst HR
    have d1 : decide (sg = 0) = false := decide_eq_false hg
    clear h hlen hl hz k1
    go_enter Tryd.func13, Tryd.ntmps13
    go_wp2_with (first
      | (go_at_call 16; ((with_reducible refine (C1.out _).mono ?_)); rintro e w2 ⟨rfl, hb⟩; have HB2 := Aside0.mk hb; clear hb))
    go_ret
    exact ⟨_, _, rfl, HT.out.below HB2.out, Fr.of_below HB2.out, fun g hg => Or.inl hg, fun g hg => Or.inl hg⟩
end Go.Proofs.YtdjhhljijpadoaaDoor.Table
/- seal.Ring.right. -/
namespace Go.Proofs.YtdjhhljijpadoaaDoor.Table
open Go.Shelf Go.Proofs.YtdjhhljijpadoaaDoor.Lay2 Go.Proofs.YtdjhhljijpadoaaDoor.Sha Go.RowKit Go.Proofs.YtdjhhljijpadoaaDoor.Q Go.Proofs.YtdjhhljijpadoaaDoorW.PrintWords Go.Proofs.YtdjhhljijpadoaaDoorW.PrintLast Go.Proofs.YtdjhhljijpadoaaDoorW.PrintMore Go.Proofs.YtdjhhljijpadoaaDoor.Bytes
set_option linter.unusedVariables false
set_option linter.unusedSimpArgs false
theorem getV_size {ks vs : List ByteArray} {x : ByteArray} {n : Nat} (h : ∀ v ∈ vs, v.size < n) (hn : 0 < n) : (getV ks vs x).1.size < n := by
  unfold getV
  split
  · show (vs.getD (placeOf ks x) ⟨#[]⟩).size < n
    rw [List.getD_eq_getElem?_getD]
    cases hv : vs[placeOf ks x]? with
    | none => exact hn
    | some v => exact h v (List.mem_of_getElem? hv)
  · exact hn
/-- Is this signature right? -/
def rightB (ks vs : List ByteArray) (signer sign text : ByteArray) : Bool := (getV ks vs signer).2 && (decide (Signer.signNo (bs signer) = 0) && decide (signB signer (getV ks vs signer).1 text = sign))
set_option maxRecDepth 100000 in
set_option maxHeartbeats 4000000 in
theorem right_calls (w : World) (r p : Nat) (vk vv : Value) (ks vs : List ByteArray) (signer sign text : ByteArray) (h : Rg w r p vk vv ks vs) (hG : Glob w) (hlen : vs.length = ks.length) (hl : (ks.length + 1) * 16 ≤ 140737488355328) (hz : signer.size ≤ 140737488355000) (hv : ∀ v ∈ vs, v.size < 1152921504606846976) (ht : text.size < 1152921504606846000) :
    Calls Tryd.prog 85 #[.pointer (some ⟨r, 0, none⟩), .string signer, .string sign, .string text] w fun e w' => e = .returned (.bool (rightB ks vs signer sign text)) ∧ Below w.heap.size w w' := by
  have hgs := getV_size (ks := ks) (x := signer) hv (by decide)
  have HR : rightB ks vs signer sign text = ((getV ks vs signer).2 && (decide (Signer.signNo (bs signer) = 0) && decide (signB signer (getV ks vs signer).1 text = sign))) := rfl
  obtain ⟨R, hR⟩ : ∃ R, rightB ks vs signer sign text = R := ⟨_, rfl⟩
  rw [hR] at HR ⊢
  have CG := Aside0.mk (get_calls w p vk vv ks vs signer h.tb hlen (by omega))
  obtain ⟨gv, hgv⟩ : ∃ a, (getV ks vs signer).1 = a := ⟨_, rfl⟩
  obtain ⟨gk, hgk⟩ : ∃ a, (getV ks vs signer).2 = a := ⟨_, rfl⟩
  simp only [hgv, hgk] at CG HR hgs
  have c0 : w.cell? ⟨r, 0, none⟩ = some (.pointer (some ⟨p, 0, none⟩)) := by simp [World.cell?, h.lies]
  clear hR hgv hgk hlen hl hv h
  cases gk with
  | false =>
    rw [Bool.false_and] at HR
    subst HR
    clear hG
    go_enter Tryd.func85, Tryd.ntmps85
    go_wp2_with (first
      | (go_at_call 27; ((with_reducible refine CG.out.mono ?_)); rintro e w2 ⟨rfl, hb⟩; have HB2 := Aside0.mk hb; clear hb))
    go_ret
    exact ⟨rfl, HB2.out⟩
  | true =>
    rw [Bool.true_and] at HR
    by_cases hs : Signer.signNo (bs signer) = 0
    · rw [decide_eq_true hs, Bool.true_and] at HR
      have CS := Aside0.mk (fun (W : World) (hb : Below w.heap.size w W) => sign_good signer gv text W (hG.below hb hG.lt) hs hgs ht)
      obtain ⟨S, hS⟩ : ∃ a, signB signer gv text = a := ⟨_, rfl⟩
      rw [hS] at HR
      simp only [hS] at CS
      clear hS hG hs
      by_cases he : S = sign
      · subst he
        rw [decide_eq_true rfl] at HR
        subst HR
        have d1 : (S.toList == S.toList) = true := by simp
        go_enter Tryd.func85, Tryd.ntmps85
        go_wp2_with (first
          | (go_at_call 27; ((with_reducible refine CG.out.mono ?_)); rintro e w2 ⟨rfl, hb⟩; have HB2 := Aside0.mk hb; clear hb)
          | (go_at_call 7; ((with_reducible refine (CS.out w2 HB2.out).mono ?_)); rintro e w3 ⟨rfl, hb⟩; have HB3 := Aside0.mk (HB2.out.trans (hb.mono HB2.out.size)); clear hb))
        go_ret
        exact ⟨rfl, HB3.out⟩
      · rw [decide_eq_false he] at HR
        subst HR
        have d1 : (S.toList == sign.toList) = false := by
          rw [beq_eq_false_iff_ne, toList_bs, toList_bs]
          exact fun e => he (bs_inj e)
        go_enter Tryd.func85, Tryd.ntmps85
        go_wp2_with (first
          | (go_at_call 27; ((with_reducible refine CG.out.mono ?_)); rintro e w2 ⟨rfl, hb⟩; have HB2 := Aside0.mk hb; clear hb)
          | (go_at_call 7; ((with_reducible refine (CS.out w2 HB2.out).mono ?_)); rintro e w3 ⟨rfl, hb⟩; have HB3 := Aside0.mk (HB2.out.trans (hb.mono HB2.out.size)); clear hb))
        go_ret
        exact ⟨rfl, HB3.out⟩
    · rw [decide_eq_false hs, Bool.false_and] at HR
      subst HR
      obtain ⟨sg, hsg⟩ : ∃ a, Signer.signNo (bs signer) = a := ⟨_, rfl⟩
      rw [hsg] at hs
      have CS := Aside0.mk (fun (W : World) => sign_bad signer gv text W sg hs hsg hz)
      have d1 : decide (sg = 0) = false := decide_eq_false hs
      clear hG hsg
      go_enter Tryd.func85, Tryd.ntmps85
      go_wp2_with (first
        | (go_at_call 27; ((with_reducible refine CG.out.mono ?_)); rintro e w2 ⟨rfl, hb⟩; have HB2 := Aside0.mk hb; clear hb)
        | (go_at_call 7; ((with_reducible refine (CS.out w2).mono ?_)); rintro e w3 ⟨rfl, hb⟩; have HB3 := Aside0.mk (HB2.out.trans (hb.mono HB2.out.size)); clear hb))
      go_ret
      exact ⟨rfl, HB3.out⟩
end Go.Proofs.YtdjhhljijpadoaaDoor.Table
/- strings.Cut at a separator of one byte. -/
namespace Go.Proofs.YtdjhhljijpadoaaDoor.Sha
open Go.RowKit Go.Proofs.YtdjhhljijpadoaaDoorW.PrintWords Go.Proofs.YtdjhhljijpadoaaDoorW.PrintLast Go.Proofs.YtdjhhljijpadoaaDoorW.PrintMore Go.Proofs.YtdjhhljijpadoaaDoor.Bytes
set_option linter.unusedVariables false
set_option linter.unusedSimpArgs false
def cutB (s : ByteArray) (c : UInt8) : ByteArray × ByteArray × Bool :=
  if 0 ≤ Lib.indexByte s.data.toList c then (s.extract 0 (Lib.indexByte s.data.toList c).toNat, s.extract ((Lib.indexByte s.data.toList c).toNat + 1) s.size, true) else (s, ⟨#[]⟩, false)
set_option maxRecDepth 100000 in
set_option maxHeartbeats 4000000 in
theorem lcut_calls (s : ByteArray) (c : UInt8) (w : World) (hs : s.size ≤ 9223372036854775000) : Calls Tryd.prog 57 #[.string s, .string ⟨#[c]⟩] w fun e w' => e = .returned (.tuple #[.string (cutB s c).1, .string (cutB s c).2.1, .bool (cutB s c).2.2]) ∧ Below w.heap.size w w' := by
  have CI := Aside0.mk (fun W => Tryd.stringslite_Index_one s c W)
  have HB0 := Aside0.mk (Below.refl w.heap.size w)
  by_cases h : 0 ≤ Lib.indexByte s.data.toList c
  · obtain ⟨n, hn⟩ : ∃ n : Nat, Lib.indexByte s.data.toList c = (n : Int) := ⟨_, (Int.toNat_of_nonneg h).symm⟩
    have hlt : n < s.size := by
      have := (Lib.indexByte_some hn).1
      have := (List.getElem?_eq_some_iff.1 this).1
      rw [Lib.size_eq]
      exact this
    have hc : cutB s c = (s.extract 0 n, s.extract (n + 1) s.size, true) := by
      unfold cutB
      rw [if_pos h, hn, Int.toNat_natCast]
    rw [hn] at CI
    rw [hc]
    have d1 : decide (0 ≤ (n : Int)) = true := decide_eq_true (by omega)
    have p1 : (0 ≤ (n : Int)) = True := eq_true (by omega)
    have p2 : ((n : Int) ≤ (s.size : Int)) = True := eq_true (by omega)
    have p3 : (0 ≤ (n : Int) + 1) = True := eq_true (by omega)
    have p4 : ((n : Int) + 1 ≤ (s.size : Int)) = True := eq_true (by omega)
    have e1 : IntKind.i64.wrap ((n : Int) + 1) = (n : Int) + 1 := by rw [IntKind.wrap_i64]; omega
    have e2 : ((n : Int) + 1).toNat = n + 1 := by omega
    have q1 : (n ≤ s.size) = True := eq_true (by omega)
    have q2 : (n + 1 ≤ s.size) = True := eq_true (by omega)
    clear h hn hc
    go_enter Tryd.func57, Tryd.ntmps57
    go_wp2_with (first | (go_at_call 60; ((with_reducible refine (CI.out _).mono ?_)); rintro e w2 ⟨rfl, hw⟩; rw [hw]; clear hw))
    go_quiet (fail)
    go_wp2
    go_ret3
    exact ⟨rfl, pw_below_drewN HB0.out _⟩
  · have hc : cutB s c = (s, ⟨#[]⟩, false) := by
      unfold cutB
      rw [if_neg h]
    have hm : Lib.indexByte s.data.toList c = -1 := by have := Lib.indexByte_ge s.data.toList c; omega
    rw [hm] at CI
    rw [hc]
    clear h hm hc
    go_enter Tryd.func57, Tryd.ntmps57
    go_wp2_with (first | (go_at_call 60; ((with_reducible refine (CI.out _).mono ?_)); rintro e w2 ⟨rfl, hw⟩; rw [hw]; clear hw))
    go_ret3
    exact ⟨rfl, HB0.out⟩
set_option maxRecDepth 100000 in
set_option maxHeartbeats 4000000 in
theorem cut_calls (s : ByteArray) (c : UInt8) (w : World) (hs : s.size ≤ 9223372036854775000) : Calls Tryd.prog 50 #[.string s, .string ⟨#[c]⟩] w fun e w' => e = .returned (.tuple #[.string (cutB s c).1, .string (cutB s c).2.1, .bool (cutB s c).2.2]) ∧ Below w.heap.size w w' := by
  have CI := Aside0.mk (fun W => lcut_calls s c W hs)
  obtain ⟨a, ha⟩ : ∃ a, cutB s c = a := ⟨_, rfl⟩
  rw [ha] at CI
  rw [ha]
  clear ha
  have HB0 := Aside0.mk (Below.refl w.heap.size w)
  go_enter Tryd.func50, Tryd.ntmps50
  go_wp2_with (first | (go_at_call 57; ((with_reducible refine (CI.out _).mono ?_)); rintro e w2 ⟨rfl, hb⟩; have HB2 := Aside0.mk (HB0.out.trans (hb.mono HB0.out.size)); clear hb))
  go_ret3
  exact ⟨rfl, HB2.out⟩
end Go.Proofs.YtdjhhljijpadoaaDoor.Sha
/- A row of bytes of one's own of which what lies behind it may be frozen: '[]byte(s)' and what is appended to it. -/
namespace Go.Proofs.YtdjhhljijpadoaaDoor.Tail
open Go.RowKit Go.Proofs.YtdjhhljijpadoaaDoorW.PrintWords Go.Proofs.YtdjhhljijpadoaaDoorW.PrintLast Go.Proofs.YtdjhhljijpadoaaDoorW.PrintMore
set_option linter.unusedVariables false
set_option linter.unusedSimpArgs false

/-- The bytes of a text as numbers. -/
def numsOf (s : ByteArray) : List Int := s.data.toList.map fun b => (b.toNat : Int)
theorem numsOf_len (s : ByteArray) : (numsOf s).length = s.size := by simp [numsOf]
def OwnT (w : World) (base : Nat) (e : TypeId) (v : Value) (bs : List Int) : Prop :=
  ∃ g cap cur fz, v = .slice (some ⟨g, 0, none⟩) bs.length cap ∧ base ≤ g ∧ w.heap[g]? = some (.cells cur e fz) ∧ (fz.2 = 0 ∨ cap ≤ fz.1) ∧ bs.length ≤ cap ∧ cap ≤ maxLen ∧ cur.size = cap ∧ cur.toList.take bs.length = nums .u8 bs
section
variable {w w1 : World} {base : Nat} {e : TypeId} {v : Value} {bs : List Int}
theorem OwnT.kept (h : OwnT w base e v bs) {row : Option Nat} (hg : w.grownBy w1 row) (hne : v.ownBlock ≠ row) : OwnT w1 base e v bs := by
  obtain ⟨g, cap, cur, fz, rfl, hb, hgg, r⟩ := h
  exact ⟨g, cap, cur, fz, rfl, hb, (hg.block g (Array.getElem?_eq_some_iff.1 hgg).1 (by simpa [Value.ownBlock] using hne)).trans hgg, r⟩
theorem OwnT.alloc (h : OwnT w base e v bs) (o : Obj) : OwnT (w.alloc o) base e v bs := by
  refine h.kept (World.grownBy_alloc w o none) ?_
  obtain ⟨g, cap, cur, fz, rfl, _⟩ := h
  simp [Value.ownBlock]
theorem OwnT.lower (h : OwnT w base e v bs) {base' : Nat} (hb : base' ≤ base) : OwnT w base' e v bs := by
  obtain ⟨g, cap, cur, fz, rfl, hb', r⟩ := h
  exact ⟨g, cap, cur, fz, rfl, Nat.le_trans hb hb', r⟩
theorem OwnT.reads (h : OwnT w base e v bs) : ∃ A c, v = .slice A bs.length c ∧ ReadsInt w .u8 A bs.length bs := by
  obtain ⟨g, cap, cur, fz, rfl, hb, hgg, _, hl, hm, hc, ht⟩ := h
  refine ⟨_, _, rfl, rfl, by simp only [maxLen] at hm; omega, fun _ => ⟨_, rfl, fun j hj => ?_⟩⟩
  have hadd : (⟨g, 0, none⟩ : Addr).add j = ⟨g, j, none⟩ := by unfold Addr.add; split <;> simp_all
  rw [hadd, cell_of_row w g j cur e fz hgg]
  have h1 : (cur.toList.take bs.length)[j]? = cur[j]? := by rw [List.getElem?_take, if_pos hj]; simp
  rw [← h1, ht]
  simp [nums, List.getD_eq_getElem?_getD, List.getElem?_eq_getElem hj]
theorem OwnT.of_own {B n : Nat} {xs : List Value} (h : w.ownsRow B e 1 v n xs) (hn : n = bs.length) (hx : xs = nums .u8 bs) (h0 : 0 < bs.length) (hb : base ≤ B) : OwnT w base e v bs := by
  rcases h.2 with ⟨_, he⟩ | ⟨g, cap, cur, rfl, hbb, hgg, hnc, hcm, hcs, ht⟩
  · omega
  · subst hn hx
    exact ⟨g, cap, cur, (0, 0), rfl, Nat.le_trans hb hbb, hgg, .inl rfl, hnc, hcm, by simpa using hcs, by simpa using ht⟩
end
theorem OwnT.string {P : Program} {w : World} {base src dst e : Nat} {v : Value} {bs : List Int} (hs : P.underlying src = some (.slice e)) (he : P.underlying e = some (.int .u8)) (hd : P.underlying dst = some .string) (h : OwnT w base e v bs) :
    (convert src dst v).run P w = .ok (.string (strOfNums bs)) w := by
  obtain ⟨A, c, rfl, hr⟩ := h.reads
  exact string_of_reads hs he hd hr
section
variable {P : Program} {ops : Array Oper} {rest : List Oper} {o : Oper} {a : Act} {Q : Exit → Act → World → Prop}
/-- '[]byte(s)'. -/
theorem T_conv {w0 W : World} (base e : Nat) (hgd : o.guard = none) {N : Tmp} (hd : o.dst = some N) (src t : TypeId) (x : Operand) (ho : o.op = .convert src t x) (s : ByteArray) (hx : a.eval x = .string s)
    (hsrc : P.underlying src = some .string) (ht : P.underlying t = some (.slice e)) (he : P.underlying e = some (.int .u8)) (hm : s.size ≤ maxLen) (HB : Below base w0 W) (hbase : base ≤ W.heap.size)
    (h : ∀ v1 w1, OwnT w1 base e v1 (numsOf s) → Below base w0 w1 → wpList P ops Q rest (a.put o.dst v1) w1) : wpList P ops Q (o :: rest) a W := by
  have hr := Lib.run_convert_string_bytes (P := P) W src t e s hsrc ht he
  have hge := grownCap_ge W s.size 0 e
  have hcm : grownCap W s.size 0 e ≤ maxLen := grownCap_le_maxLen W s.size 0 e hm
  have hsz : (Lib.bytesCells W e s).size = grownCap W s.size 0 e := by
    simp only [Lib.bytesCells, Array.size_append, Array.size_map, Array.size_replicate]
    have : s.data.size = s.size := rfl
    omega
  refine Kd.event_run hgd (w1 := Lib.bytesWorld W e s) (v := .slice (some ⟨W.heap.size, 0, none⟩) s.size (grownCap W s.size 0 e)) ?_ (h _ _ ⟨W.heap.size, grownCap W s.size 0 e, Lib.bytesCells W e s, _, by rw [numsOf_len], hbase, Lib.bytesWorld_at_new W e s, .inr (by simp only; omega), by rw [numsOf_len]; exact hge, hcm, hsz, ?_⟩ ?_)
  · simp [execOp, ho, hx, hr]
  · rw [numsOf_len]
    simp only [Lib.bytesCells, Array.toList_append, Array.toList_map]
    have hl : s.size = (s.data.toList.map fun b => Value.int IntKind.u8 (b.toNat : Int)).length := by simp
    rw [hl, List.take_left]
    simp [nums, numsOf]
  · exact HB.trans ⟨by simp [Lib.bytesWorld, World.freeze, World.alloc, World.drew, -World.alloc_eq, -World.drew_eq], by simp [Lib.bytesWorld, World.freeze, World.alloc, World.drew, -World.alloc_eq, -World.drew_eq], by simp [Lib.bytesWorld, World.freeze, World.alloc, World.drew, -World.alloc_eq, -World.drew_eq], by rw [Lib.bytesWorld_size]; omega, fun k hk => Lib.bytesWorld_at_old W e s k (by omega)⟩
theorem cell_lit (W : World) (u : Value) (t : TypeId) : (W.alloc (.cells #[u] t)).cell? ⟨W.heap.size, 0, none⟩ = some u := (cell_of_row _ _ 0 _ t (0, 0) (heap_alloc_new W _)).trans rfl
/-- One byte more behind it. -/
theorem T_append {w0 W : World} (base e : Nat) (hgd : o.guard = none) (s x : Operand) (t : TypeId) (ho : o.op = .call { callee := .builtin .append, args := #[s, x], argTypes := #[t, t] })
    (ht : P.underlying t = some (.slice e)) (hinfo : (P.info? e).map (fun i => (i.zero, i.size, i.bytes)) = some (some (.int .u8 0), 1, 1))
    (v : Value) (bs : List Int) (y : Int) (hs : a.eval s = v) (g : Nat) (c : Nat) (hx : a.eval x = .slice (some ⟨g, 0, none⟩) 1 c) (hg : W.cell? ⟨g, 0, none⟩ = some (.int .u8 y))
    (HO : OwnT W base e v bs) (HB : Below base w0 W) (hbase : base ≤ W.heap.size) (hl : bs.length + 1 ≤ 140737488355328)
    (h : ∀ v1 w1, OwnT w1 base e v1 (bs ++ [y]) → Below base w0 w1 → wpList P ops Q rest (a.put o.dst v1) w1) : wpList P ops Q (o :: rest) a W := by
  obtain ⟨i, hi, hzz⟩ := Option.map_eq_some_iff.1 hinfo
  simp only [Prod.mk.injEq] at hzz
  obtain ⟨hz, h4, h5⟩ := hzz
  obtain ⟨g0, cap, cur, fz, rfl, hb, hgg, hfz, hn, hm, hcs, htk⟩ := HO
  have hml : maxLen = 9223372036854775807 := rfl
  have hx1 : ∀ j u, ([Value.int .u8 y] : List Value)[j]? = some u → W.cell? ((⟨g, 0, none⟩ : Addr).add j) = some u := by
    intro j u hj
    rcases j with _ | j
    · simp only [List.getElem?_cons_zero, Option.some.injEq] at hj
      subst hj
      exact hg
    · simp at hj
  have hcell : ∀ j, j < cap → W.cell? ⟨g0, j, none⟩ = cur[j]? := fun j hj => cell_of_row W g0 j cur e fz hgg
  refine wpList_append_arg (P := P) W hgd s x t ho e i (.int .u8 0) 1 1 ht hi hz h4 h5 rfl (by omega) g0 0 bs.length cap (nums .u8 bs) hs (by simp [nums]) ?_ ⟨g, 0, none⟩ 1 c [.int .u8 y] hx rfl hx1 (by simp [Value.oneCell']) ?_ (by omega) (by omega) ?_ ?_
  · intro j u hj
    have hjl : j < bs.length := by
      have := (List.getElem?_eq_some_iff.1 hj).1
      simpa [nums] using this
    rw [Nat.zero_add, hcell j (by omega)]
    rw [← htk, List.getElem?_take, if_pos hjl] at hj
    simpa using hj
  · intro hr j hj
    have hj0 : j = 0 := by simpa using hj
    subst hj0
    have hlt : bs.length < cap := by omega
    simp only [Nat.zero_add, Nat.mul_one, Nat.add_zero]
    refine ⟨?_, ?_⟩
    · rw [hcell _ hlt, Array.getElem?_eq_getElem (by omega)]
      rfl
    · simp only [World.frozen?, hgg]
      obtain ⟨f1, f2⟩ := fz
      simp only at hfz
      simp only [Bool.and_eq_false_iff, decide_eq_false_iff_not]
      omega
  · intro hr
    refine h _ _ ⟨g0, cap, cur.setIfInBounds bs.length (.int .u8 y), fz, by simp, hb, ?_, hfz, by simpa using hr, hm, by simpa using hcs, ?_⟩ ?_
    · simp [World.setCells, World.setCell, Array.getElem?_modify, hgg]
    · simp only [List.length_append, List.length_cons, List.length_nil, Array.toList_setIfInBounds]
      have hlt : bs.length < cur.toList.length := by
        have : cur.toList.length = cur.size := Array.length_toList
        omega
      rw [List.take_add_one, List.getElem?_set_self hlt, List.take_set_of_le (Nat.le_refl _), htk]
      simp [nums]
    · exact HB.setCell hb _
  · intro hr v' w' ho' hgr
    refine h v' w' (OwnT.of_own ho' (by simp) (by simp [nums]) (by simp) hbase) ?_
    exact HB.grown hgr hbase (fun k hk => by cases hk)
end
end Go.Proofs.YtdjhhljijpadoaaDoor.Tail
/- info.digest, info.SplitSign, walked. -/
namespace Go.Proofs.YtdjhhljijpadoaaDoor.Sha
open Go.Proofs.YtdjhhljijpadoaaDoor.OrdersBut Go.Proofs.YtdjhhljijpadoaaDoor.Tail Go.RowKit Go.Proofs.YtdjhhljijpadoaaDoor.Q Go.Proofs.YtdjhhljijpadoaaDoorW.PrintWords Go.Proofs.YtdjhhljijpadoaaDoorW.PrintLast Go.Proofs.YtdjhhljijpadoaaDoorW.PrintMore Go.Proofs.YtdjhhljijpadoaaDoor.Bytes
set_option linter.unusedVariables false
set_option linter.unusedSimpArgs false
theorem results_row_tmp {P : Program} {fn : Func} {p u : Tmp} {ty : TypeId} (h : fn.results = #[.cell p ty, .tmp u]) (tmps : Array Value) (w : World) (g : Nat) (t : TypeId) (cs : Array Value) (fr : Nat × Nat) (d : TypeDesc)
    (hp : tmps.getD p undef = .pointer (some ⟨g, 0, none⟩)) (hg : w.heap[g]? = some (.cells cs t fr)) (hu : P.underlying ty = some d) (hd : (match d with | .struct _ | .array _ _ => true | _ => false) = true) (hi : (P.info? ty).map (·.size) = some cs.size) :
    (results fn tmps).run P w = .ok (.tuple #[.agg cs, tmps.getD u undef]) w := by
  have hp' : tmps[p]?.getD undef = .pointer (some ⟨g, 0, none⟩) := by simpa using hp
  simp [results, h, hp', asAddr, run_loadVar_row w g t ty cs fr d hg hu hd hi]
theorem results_tmp_row_tmp {P : Program} {fn : Func} {a p u : Tmp} {ty : TypeId} (h : fn.results = #[.tmp a, .cell p ty, .tmp u]) (tmps : Array Value) (w : World) (g : Nat) (t : TypeId) (cs : Array Value) (fr : Nat × Nat) (d : TypeDesc)
    (hp : tmps.getD p undef = .pointer (some ⟨g, 0, none⟩)) (hg : w.heap[g]? = some (.cells cs t fr)) (hu : P.underlying ty = some d) (hd : (match d with | .struct _ | .array _ _ => true | _ => false) = true) (hi : (P.info? ty).map (·.size) = some cs.size) :
    (results fn tmps).run P w = .ok (.tuple #[tmps.getD a undef, .agg cs, tmps.getD u undef]) w := by
  have hp' : tmps[p]?.getD undef = .pointer (some ⟨g, 0, none⟩) := by simpa using hp
  simp [results, h, hp', asAddr, run_loadVar_row w g t ty cs fr d hg hu hd hi]
/-- Are these the letters of 32 bytes? -/
def dgOk (s : ByteArray) : Bool := (B32.dec (bs s)).2 == 0 && (B32.dec (bs s)).1.size == 32
theorem range_take {w : World} {g : Nat} {cur : Array Value} {e : TypeId} {fz : Nat × Nat} {s : ByteArray} {n : Nat} (hg : w.heap[g]? = some (.cells cur e fz)) (h : cur.toList.take n = nums .u8 (numsOf s)) : w.rangeAt g 0 ((bs s).map bcell) := fun j v hv => by
  have e1 : nums .u8 (numsOf s) = (bs s).map bcell := by simp [nums, numsOf, bs, bcell, B]
  rw [e1] at h
  rw [← h] at hv
  rw [List.getElem?_take] at hv
  split at hv
  · simp only [World.cell?, hg, Nat.zero_add]
    simpa using hv
  · cases hv
set_option maxRecDepth 100000 in
set_option maxHeartbeats 4000000 in
theorem digest_calls (s : ByteArray) (w : World) (hs : s.size ≤ 140737488351232) : Calls Tryd.prog 51 #[.string s] w fun e w' => ∃ d : List UInt8, d.length = 32 ∧ e = .returned (.tuple #[.agg (d.map bcell).toArray, .bool (dgOk s)]) ∧ Below w.heap.size w w' := by
  have HR28 : Aside0 ((Tryd.prog.info? 29).map (·.size) = some 32) := ⟨by kernel_rfl⟩
  obtain ⟨k, hk⟩ := B32.fromBase32 s (by rw [← size_bs]; exact hs)
  obtain ⟨r, hr⟩ : ∃ r, B32.dec (bs s) = r := ⟨_, rfl⟩
  have hf := hk k (Nat.le_refl _)
  rw [hr] at hf
  obtain ⟨r1, r2⟩ := r
  have CF := Aside0.mk (fun W => radix_FromBase32.calls k s r1 r2 W hf)
  clear hf
  have HOK : Aside0 (dgOk s = (r2 == 0 && r1.size == 32)) := ⟨by unfold dgOk; rw [hr]⟩
  obtain ⟨W1, hW1⟩ : ∃ W1, w.alloc (.cells (List.replicate 32 (Value.int .u8 0)).toArray 29) = W1 := ⟨_, rfl⟩
  have HB1 : Aside0 (Below w.heap.size w W1) := ⟨by rw [← hW1]; exact (Below.refl w.heap.size w).alloc (Nat.le_refl _) _⟩
  have HX1 : Aside0 (W1.heap[w.heap.size]? = some (.cells (List.replicate 32 (Value.int .u8 0)).toArray 29 (0, 0))) := ⟨by rw [← hW1]; exact World.alloc_heap_new w _⟩
  rw [HOK.out]
  clear hr hk HOK
  go_enter Tryd.func51, Tryd.ntmps51
  go_upto_region 1 with fail
  change Code.wp _ _ _ _ (w.alloc (.cells (List.replicate 32 (Value.int .u8 0)).toArray 29))
  rw [hW1]
  clear hW1
  by_cases h2 : r2 = 0
  · subst h2
    by_cases h1 : r1.size = 32
    · have d1 : decide ((r1.size : Int) = 32) = true := decide_eq_true (by omega)
      have d2 : (r1.size == 32) = true := by rw [h1]; rfl
      have hat : ∀ g c W, (Instr.arrayAt 29 (.slice (some ⟨g, 0, none⟩) 32 c)).run Tryd.prog W = .ok (.pointer (some ⟨g, 0, none⟩)) W := fun g c W => run_arrayAt W 29 _ 32 _ 32 c Tryd.underlying29 (Nat.le_refl _)
      go_wp2_with (first
      | (go_at_call 58; ((with_reducible refine (CF.out _).mono ?_)); rintro e w2 ⟨rfl, hb⟩; have HB2 := Aside0.mk (HB1.out.trans (hb.mono HB1.out.size)); have HX2 := Aside0.mk ((hb.block _ (Array.getElem?_eq_some_iff.1 HX1.out).1).trans HX1.out); clear hb)
      | ((with_reducible refine gate_dst (N := 20) rfl ?_); refine T_conv (w0 := w2) w2.heap.size 5 rfl (N := 20) rfl 9 34 _ rfl r1 rfl Tryd.underlying9 Tryd.underlying34 Tryd.underlying5 (by simp only [maxLen]; omega) (Below.refl _ _) (Nat.le_refl _) ?_; intro vc w3 HO hb3; obtain ⟨gp, cp, cur, fz, rfl, hg1, hg2, hg3, hg4, hg5, hg6, hg7⟩ := HO; rw [numsOf_len, h1] at hg7 ⊢; have HR3 : Aside0 (w3.rangeAt gp 0 ((bs r1).map bcell)) := ⟨range_take hg2 hg7⟩; have HB3 := Aside0.mk (HB2.out.trans (hb3.mono HB2.out.size)); have HX3 := Aside0.mk ((hb3.block _ (Array.getElem?_eq_some_iff.1 HX2.out).1).trans HX2.out); clear hg1 hg2 hg3 hg4 hg5 hg6 hg7 hb3)
      | ((with_reducible refine gate_dst (N := 22) rfl ?_); refine wpList_load_mid rfl 29 (.tmp 21) rfl gp 0 rfl ((bs r1).map bcell) _ HR3.out Tryd.underlying29 rfl (by rw [List.length_map, ← size_bs, h1]; kernel_rfl) ?_)
      | ((with_reducible refine gate_store (t := 29) (p := 2) rfl ?_); refine wpList_store_row' rfl 29 (.tmp 2) (.tmp 22) rfl w.heap.size 29 (List.replicate 32 (Value.int .u8 0)).toArray ((bs r1).map bcell).toArray rfl rfl HX3.out (by rw [List.size_toArray, List.length_map, ← size_bs, h1]; kernel_rfl) (by rw [List.size_toArray, List.size_toArray, List.length_map, ← size_bs, h1]; rfl) (all_oneCell_toArray fun u hu => by obtain ⟨y, _, rfl⟩ := List.mem_map.1 hu; rfl) ?_; intro w9 hw9; have HX9 : Aside0 (w9.heap[w.heap.size]? = some (.cells ((bs r1).map bcell).toArray 29 (0, 0))) := ⟨by rw [hw9]; exact setRow_heap _ _ _ _ _ _ HX3.out⟩; have HB9 : Aside0 (Below w.heap.size w w9) := ⟨by rw [hw9]; exact below_setRow HB3.out (Nat.le_refl _) _⟩; clear hw9))
      refine bodyPost_ret (results_row_tmp rfl _ _ w.heap.size 29 ((bs r1).map bcell).toArray (0, 0) _ rfl HX9.out Tryd.underlying29 rfl (by rw [List.size_toArray, List.length_map, ← size_bs, h1]; kernel_rfl)) rfl ⟨bs r1, by rw [← size_bs]; exact h1, by rw [d2]; rfl, HB9.out⟩
    · have d1 : decide ((r1.size : Int) = 32) = false := decide_eq_false (by omega)
      have d2 : (r1.size == 32) = false := by rw [beq_eq_false_iff_ne]; exact h1
      go_wp2_with (first
      | (go_at_call 58; ((with_reducible refine (CF.out _).mono ?_)); rintro e w2 ⟨rfl, hb⟩; have HB2 := Aside0.mk (HB1.out.trans (hb.mono HB1.out.size)); have HX2 := Aside0.mk ((hb.block _ (Array.getElem?_eq_some_iff.1 HX1.out).1).trans HX1.out); clear hb)
      | ((with_reducible refine gate_store (t := 29) (p := 2) rfl ?_); refine wpList_store_row' rfl 29 (.tmp 2) (.tmp 18) rfl w.heap.size 29 (List.replicate 32 (Value.int .u8 0)).toArray ((List.replicate 32 (0 : UInt8)).map bcell).toArray rfl rfl HX2.out (by kernel_rfl) (by kernel_rfl) (by kernel_rfl) ?_; intro w9 hw9; have HX9 : Aside0 (w9.heap[w.heap.size]? = some (.cells ((List.replicate 32 (0 : UInt8)).map bcell).toArray 29 (0, 0))) := ⟨by rw [hw9]; exact setRow_heap _ _ _ _ _ _ HX2.out⟩; have HB9 : Aside0 (Below w.heap.size w w9) := ⟨by rw [hw9]; exact below_setRow HB2.out (Nat.le_refl _) _⟩; clear hw9))
      refine bodyPost_ret (results_row_tmp rfl _ _ w.heap.size 29 ((List.replicate 32 (0 : UInt8)).map bcell).toArray (0, 0) _ rfl HX9.out Tryd.underlying29 rfl (by kernel_rfl)) rfl ⟨List.replicate 32 0, rfl, by rw [d2]; rfl, HB9.out⟩
  · have d1 : decide (r2 = 0) = false := decide_eq_false h2
    have d2 : (r2 == 0) = false := by rw [beq_eq_false_iff_ne]; exact h2
    go_wp2_with (first
      | (go_at_call 58; ((with_reducible refine (CF.out _).mono ?_)); rintro e w2 ⟨rfl, hb⟩; have HB2 := Aside0.mk (HB1.out.trans (hb.mono HB1.out.size)); have HX2 := Aside0.mk ((hb.block _ (Array.getElem?_eq_some_iff.1 HX1.out).1).trans HX1.out); clear hb)
      | ((with_reducible refine gate_store (t := 29) (p := 2) rfl ?_); refine wpList_store_row' rfl 29 (.tmp 2) (.tmp 18) rfl w.heap.size 29 (List.replicate 32 (Value.int .u8 0)).toArray ((List.replicate 32 (0 : UInt8)).map bcell).toArray rfl rfl HX2.out (by kernel_rfl) (by kernel_rfl) (by kernel_rfl) ?_; intro w9 hw9; have HX9 : Aside0 (w9.heap[w.heap.size]? = some (.cells ((List.replicate 32 (0 : UInt8)).map bcell).toArray 29 (0, 0))) := ⟨by rw [hw9]; exact setRow_heap _ _ _ _ _ _ HX2.out⟩; have HB9 : Aside0 (Below w.heap.size w w9) := ⟨by rw [hw9]; exact below_setRow HB2.out (Nat.le_refl _) _⟩; clear hw9))
    refine bodyPost_ret (results_row_tmp rfl _ _ w.heap.size 29 ((List.replicate 32 (0 : UInt8)).map bcell).toArray (0, 0) _ rfl HX9.out Tryd.underlying29 rfl (by kernel_rfl)) rfl ⟨List.replicate 32 0, rfl, by rw [d2]; rfl, HB9.out⟩
/-- The signer of a signature, and the number of the fault. -/
def splitB (s : ByteArray) : ByteArray × Int := if (cutB s 58).2.2 = true ∧ dgOk (cutB s 58).2.1 = true ∧ Signer.signNo (bs (cutB s 58).1) = 0 then ((cutB s 58).1, 0) else (⟨#[]⟩, 151)
theorem cutB_size (s : ByteArray) (c : UInt8) : (cutB s c).1.size ≤ s.size ∧ (cutB s c).2.1.size ≤ s.size := by
  unfold cutB
  split
  · constructor
    · simp only [ByteArray.size_extract]; omega
    · simp only [ByteArray.size_extract]; omega
  · exact ⟨Nat.le_refl _, Nat.zero_le _⟩
set_option maxRecDepth 100000 in
set_option maxHeartbeats 4000000 in
theorem splitSign_calls (s : ByteArray) (w : World) (hs : s.size ≤ 140737488351232) : Calls Tryd.prog 39 #[.string s] w fun e w' => ∃ d : List UInt8, d.length = 32 ∧ e = .returned (.tuple #[.string (splitB s).1, .agg (d.map bcell).toArray, .int .i64 (splitB s).2]) ∧ Below w.heap.size w w' := by
  obtain ⟨hz1, hz2⟩ := cutB_size s 58
  have CC := Aside0.mk (fun (W : World) => cut_calls s 58 W (by omega))
  have HSP := Aside0.mk (show splitB s = if (cutB s 58).2.2 = true ∧ dgOk (cutB s 58).2.1 = true ∧ Signer.signNo (bs (cutB s 58).1) = 0 then ((cutB s 58).1, 0) else (⟨#[]⟩, 151) from rfl)
  obtain ⟨nm, hnm⟩ : ∃ a, (cutB s 58).1 = a := ⟨_, rfl⟩
  obtain ⟨lt, hlt⟩ : ∃ a, (cutB s 58).2.1 = a := ⟨_, rfl⟩
  obtain ⟨ok, hok⟩ : ∃ a, (cutB s 58).2.2 = a := ⟨_, rfl⟩
  rw [hnm] at hz1
  rw [hlt] at hz2
  simp only [hnm, hlt, hok] at CC HSP
  clear hnm hlt hok
  have CD := Aside0.mk (fun (W : World) => digest_calls lt W (by omega))
  obtain ⟨k1, hk1⟩ := Signer.prog_signer nm (by rw [← size_bs]; omega)
  have h1 := hk1 k1 (Nat.le_refl _)
  obtain ⟨sg, hsg⟩ : ∃ a, Signer.signNo (bs nm) = a := ⟨_, rfl⟩
  obtain ⟨dg, hdg⟩ : ∃ a, dgOk lt = a := ⟨_, rfl⟩
  rw [hsg] at h1 HSP
  rw [hdg] at HSP
  simp only [hdg] at CD
  have C1 := Aside0.mk (fun (W : World) => show Calls Tryd.prog 16 #[.string nm] W fun e w' => e = .returned (.int .i64 sg) ∧ Below W.heap.size W w' from (info_CheckSigner.calls k1 nm sg W h1).mono fun e w' h => ⟨h.1, h.2.below⟩)
  obtain ⟨W1, hW1⟩ : ∃ W1, w.alloc (.cells (List.replicate 32 (Value.int .u8 0)).toArray 29) = W1 := ⟨_, rfl⟩
  have HB1 : Aside0 (Below w.heap.size w W1) := ⟨by rw [← hW1]; exact (Below.refl w.heap.size w).alloc (Nat.le_refl _) _⟩
  have HX1 : Aside0 (W1.heap[w.heap.size]? = some (.cells (List.replicate 32 (Value.int .u8 0)).toArray 29 (0, 0))) := ⟨by rw [← hW1]; exact World.alloc_heap_new w _⟩
  obtain ⟨R, hR⟩ : ∃ R, splitB s = R := ⟨_, rfl⟩
  have HR := HSP.out.symm.trans hR
  rw [hR]
  clear hR hsg hdg hk1 h1 HSP hs hz1 hz2
  go_enter Tryd.func39, Tryd.ntmps39
  go_upto_region 1 with fail
  change Code.wp _ _ _ _ (w.alloc (.cells (List.replicate 32 (Value.int .u8 0)).toArray 29))
  rw [hW1]
  clear hW1
  cases ok with
  | false =>
    rw [if_neg (by intro h; exact Bool.noConfusion h.1)] at HR; subst HR
    clear C1 k1
    go_wp2_with (first
      | (go_at_call 50; ((with_reducible refine (CC.out _).mono ?_)); rintro e w2 ⟨rfl, hb⟩; have HB2 := Aside0.mk (HB1.out.trans (hb.mono HB1.out.size)); have HX2 := Aside0.mk ((hb.block _ (Array.getElem?_eq_some_iff.1 HX1.out).1).trans HX1.out); clear hb)
      | (go_at_call 51; ((with_reducible refine (CD.out _).mono ?_)); rintro e w3 ⟨d, hdl, rfl, hb⟩; have HL := Aside0.mk hdl; clear hdl; have HB3 := Aside0.mk (HB2.out.trans (hb.mono HB2.out.size)); have HX3 := Aside0.mk ((hb.block _ (Array.getElem?_eq_some_iff.1 HX2.out).1).trans HX2.out); clear hb)
      | ((with_reducible refine gate_store (t := 29) (p := 8) rfl ?_); refine wpList_store_row' rfl 29 (.tmp 8) (.tmp 19) rfl w3.heap.size 29 (List.replicate 32 (Value.int .u8 0)).toArray (d.map bcell).toArray rfl rfl (World.alloc_heap_new w3 _) (by rw [List.size_toArray, List.length_map, HL.out]; kernel_rfl) (by rw [List.size_toArray, List.size_toArray, List.length_map, HL.out]; rfl) (all_oneCell_toArray fun u hu => by obtain ⟨y, _, rfl⟩ := List.mem_map.1 hu; rfl) ?_; intro w4 hw4; have hb4 : Below w3.heap.size w3 w4 := (by rw [hw4]; exact below_setRow ((Below.refl w3.heap.size w3).alloc (Nat.le_refl _) _) (Nat.le_refl _) _); have HD4 : Aside0 (w4.heap[w3.heap.size]? = some (.cells (d.map bcell).toArray 29 (0, 0))) := ⟨by rw [hw4]; exact setRow_heap _ _ _ _ _ _ (World.alloc_heap_new w3 _)⟩; have HB4 := Aside0.mk (HB3.out.trans (hb4.mono HB3.out.size)); have HX4 := Aside0.mk ((hb4.block _ (Array.getElem?_eq_some_iff.1 HX3.out).1).trans HX3.out); clear hw4 hb4)
      | ((with_reducible refine gate_store (t := 29) (p := 3) rfl ?_); refine wpList_store_row' rfl 29 (.tmp 3) (.tmp 32) rfl w.heap.size 29 (List.replicate 32 (Value.int .u8 0)).toArray ((List.replicate 32 (0 : UInt8)).map bcell).toArray rfl rfl HX4.out (by kernel_rfl) (by kernel_rfl) (by kernel_rfl) ?_; intro w9 hw9; have HX9 : Aside0 (w9.heap[w.heap.size]? = some (.cells ((List.replicate 32 (0 : UInt8)).map bcell).toArray 29 (0, 0))) := ⟨by rw [hw9]; exact setRow_heap _ _ _ _ _ _ HX4.out⟩; have HB9 : Aside0 (Below w.heap.size w w9) := ⟨by rw [hw9]; exact below_setRow HB4.out (Nat.le_refl _) _⟩; clear hw9))
    refine bodyPost_ret (results_tmp_row_tmp rfl _ _ w.heap.size 29 ((List.replicate 32 (0 : UInt8)).map bcell).toArray (0, 0) _ rfl HX9.out Tryd.underlying29 rfl (by kernel_rfl)) rfl ⟨List.replicate 32 0, rfl, rfl, HB9.out⟩
  | true =>
    cases dg with
    | false =>
      rw [if_neg (by intro h; exact Bool.noConfusion h.2.1)] at HR; subst HR
      go_wp2_with (first
      | (go_at_call 50; ((with_reducible refine (CC.out _).mono ?_)); rintro e w2 ⟨rfl, hb⟩; have HB2 := Aside0.mk (HB1.out.trans (hb.mono HB1.out.size)); have HX2 := Aside0.mk ((hb.block _ (Array.getElem?_eq_some_iff.1 HX1.out).1).trans HX1.out); clear hb)
      | (go_at_call 51; ((with_reducible refine (CD.out _).mono ?_)); rintro e w3 ⟨d, hdl, rfl, hb⟩; have HL := Aside0.mk hdl; clear hdl; have HB3 := Aside0.mk (HB2.out.trans (hb.mono HB2.out.size)); have HX3 := Aside0.mk ((hb.block _ (Array.getElem?_eq_some_iff.1 HX2.out).1).trans HX2.out); clear hb)
      | ((with_reducible refine gate_store (t := 29) (p := 8) rfl ?_); refine wpList_store_row' rfl 29 (.tmp 8) (.tmp 19) rfl w3.heap.size 29 (List.replicate 32 (Value.int .u8 0)).toArray (d.map bcell).toArray rfl rfl (World.alloc_heap_new w3 _) (by rw [List.size_toArray, List.length_map, HL.out]; kernel_rfl) (by rw [List.size_toArray, List.size_toArray, List.length_map, HL.out]; rfl) (all_oneCell_toArray fun u hu => by obtain ⟨y, _, rfl⟩ := List.mem_map.1 hu; rfl) ?_; intro w4 hw4; have hb4 : Below w3.heap.size w3 w4 := (by rw [hw4]; exact below_setRow ((Below.refl w3.heap.size w3).alloc (Nat.le_refl _) _) (Nat.le_refl _) _); have HD4 : Aside0 (w4.heap[w3.heap.size]? = some (.cells (d.map bcell).toArray 29 (0, 0))) := ⟨by rw [hw4]; exact setRow_heap _ _ _ _ _ _ (World.alloc_heap_new w3 _)⟩; have HB4 := Aside0.mk (HB3.out.trans (hb4.mono HB3.out.size)); have HX4 := Aside0.mk ((hb4.block _ (Array.getElem?_eq_some_iff.1 HX3.out).1).trans HX3.out); clear hw4 hb4)
      | ((with_reducible refine gate_store (t := 29) (p := 3) rfl ?_); refine wpList_store_row' rfl 29 (.tmp 3) (.tmp 32) rfl w.heap.size 29 (List.replicate 32 (Value.int .u8 0)).toArray ((List.replicate 32 (0 : UInt8)).map bcell).toArray rfl rfl HX4.out (by kernel_rfl) (by kernel_rfl) (by kernel_rfl) ?_; intro w9 hw9; have HX9 : Aside0 (w9.heap[w.heap.size]? = some (.cells ((List.replicate 32 (0 : UInt8)).map bcell).toArray 29 (0, 0))) := ⟨by rw [hw9]; exact setRow_heap _ _ _ _ _ _ HX4.out⟩; have HB9 : Aside0 (Below w.heap.size w w9) := ⟨by rw [hw9]; exact below_setRow HB4.out (Nat.le_refl _) _⟩; clear hw9))
      refine bodyPost_ret (results_tmp_row_tmp rfl _ _ w.heap.size 29 ((List.replicate 32 (0 : UInt8)).map bcell).toArray (0, 0) _ rfl HX9.out Tryd.underlying29 rfl (by kernel_rfl)) rfl ⟨List.replicate 32 0, rfl, rfl, HB9.out⟩
    | true =>
      by_cases hg : sg = 0
      · subst hg
        rw [if_pos ⟨rfl, rfl, rfl⟩] at HR; subst HR
        go_wp2_with (first
      | (go_at_call 50; ((with_reducible refine (CC.out _).mono ?_)); rintro e w2 ⟨rfl, hb⟩; have HB2 := Aside0.mk (HB1.out.trans (hb.mono HB1.out.size)); have HX2 := Aside0.mk ((hb.block _ (Array.getElem?_eq_some_iff.1 HX1.out).1).trans HX1.out); clear hb)
      | (go_at_call 51; ((with_reducible refine (CD.out _).mono ?_)); rintro e w3 ⟨d, hdl, rfl, hb⟩; have HL := Aside0.mk hdl; clear hdl; have HB3 := Aside0.mk (HB2.out.trans (hb.mono HB2.out.size)); have HX3 := Aside0.mk ((hb.block _ (Array.getElem?_eq_some_iff.1 HX2.out).1).trans HX2.out); clear hb)
      | ((with_reducible refine gate_store (t := 29) (p := 8) rfl ?_); refine wpList_store_row' rfl 29 (.tmp 8) (.tmp 19) rfl w3.heap.size 29 (List.replicate 32 (Value.int .u8 0)).toArray (d.map bcell).toArray rfl rfl (World.alloc_heap_new w3 _) (by rw [List.size_toArray, List.length_map, HL.out]; kernel_rfl) (by rw [List.size_toArray, List.size_toArray, List.length_map, HL.out]; rfl) (all_oneCell_toArray fun u hu => by obtain ⟨y, _, rfl⟩ := List.mem_map.1 hu; rfl) ?_; intro w4 hw4; have hb4 : Below w3.heap.size w3 w4 := (by rw [hw4]; exact below_setRow ((Below.refl w3.heap.size w3).alloc (Nat.le_refl _) _) (Nat.le_refl _) _); have HD4 : Aside0 (w4.heap[w3.heap.size]? = some (.cells (d.map bcell).toArray 29 (0, 0))) := ⟨by rw [hw4]; exact setRow_heap _ _ _ _ _ _ (World.alloc_heap_new w3 _)⟩; have HB4 := Aside0.mk (HB3.out.trans (hb4.mono HB3.out.size)); have HX4 := Aside0.mk ((hb4.block _ (Array.getElem?_eq_some_iff.1 HX3.out).1).trans HX3.out); clear hw4 hb4)
      | (go_at_call 16; ((with_reducible refine (C1.out _).mono ?_)); rintro e w5 ⟨rfl, hb⟩; have HB5 := Aside0.mk (HB4.out.trans (hb.mono HB4.out.size)); have HX5 := Aside0.mk ((hb.block _ (Array.getElem?_eq_some_iff.1 HX4.out).1).trans HX4.out); have HD5 := Aside0.mk ((hb.block _ (Array.getElem?_eq_some_iff.1 HD4.out).1).trans HD4.out); clear hb))
        have HBD := Aside0.mk (below_drew HB5.out)
        have HXD : Aside0 (w5.drew.heap[w.heap.size]? = some (.cells (List.replicate 32 (Value.int .u8 0)).toArray 29 (0, 0))) := ⟨HX5.out⟩
        have HELD := Aside0.mk (show w5.drew.rangeAt w3.heap.size 0 (d.map bcell) from range_row (show w5.drew.heap[w3.heap.size]? = _ from HD5.out))
        refine wp_region_but 3 (fun W => W.rangeAt w3.heap.size 0 (d.map bcell)) (by kernel_rfl) ?_
        generalize w5.drew = wd at HBD HXD HELD ⊢
        refine wpAnyB_take (i := 0) rfl (by kernel_rfl) (by kernel_rfl) (by kernel_rfl) (by decide) (fun _ _ _ h => h) (Or.inl ⟨by kernel_rfl, fun w _ => by go_simp <;> with_reducible rfl⟩) (fun _ => HELD.out) ?_
        try simp only [Act.put, List.setIfInBounds_toArray, List.set_cons_zero, List.set_cons_succ]
        refine wpAnyB_load (i := 1) rfl (by kernel_rfl) (by kernel_rfl) (by kernel_rfl) (by decide) (by kernel_rfl) (by kernel_rfl) (fun _ _ _ h => h) (yieldsIf_load_mid (by kernel_rfl) 29 (.tmp 8) rfl w3.heap.size 0 rfl (d.map bcell) _ (fun w h => h) Tryd.underlying29 rfl (by rw [List.length_map, HL.out]; kernel_rfl)) HELD.out ?_
        try simp only [Act.put, List.setIfInBounds_toArray, List.set_cons_zero, List.set_cons_succ]
        refine wpAnyB_take (i := 2) rfl (by kernel_rfl) (by kernel_rfl) (by kernel_rfl) (by decide) (fun _ _ _ h => h) (Or.inl ⟨by kernel_rfl, fun w _ => by go_simp <;> with_reducible rfl⟩) (fun _ => HELD.out) ?_
        try simp only [Act.put, List.setIfInBounds_toArray, List.set_cons_zero, List.set_cons_succ]
        refine wpAnyB_one (i := 3) rfl (by kernel_rfl) (fun K9 hK => ?_)
        rw [if_pos (by kernel_rfl)]
        refine wp_store_mid 29 (.tmp 3) (.tmp 34) rfl w.heap.size 0 (d.map bcell).toArray rfl rfl (fun j hj => ⟨(range_row HXD.out).isSome j (by rw [List.length_replicate]; rw [List.size_toArray, List.length_map, HL.out] at hj; exact hj), by simp [World.frozen?, HXD.out]⟩) (by rw [List.size_toArray, List.length_map, HL.out]; kernel_rfl) (all_oneCell_toArray fun u hu => by obtain ⟨y, _, rfl⟩ := List.mem_map.1 hu; rfl) ?_
        refine hK _ _ (fun h => Bool.noConfusion (h.symm.trans (show _ = true by kernel_rfl))) ?_
        have e := setCells_rowT wd w.heap.size (d.map bcell) 29 0 (List.replicate 32 (Value.int .u8 0)) HXD.out (by rw [List.length_map, HL.out, List.length_replicate]; decide)
        rw [List.take_zero, List.nil_append, List.drop_of_length_le (by rw [List.length_map, HL.out, List.length_replicate]; decide), List.append_nil] at e
        have HX14 : Aside0 ((wd.setCells w.heap.size 0 (d.map bcell).toArray.toList).heap[w.heap.size]? = some (.cells (d.map bcell).toArray 29 (0, 0))) := ⟨by show (wd.setCells w.heap.size 0 (d.map bcell)).heap[w.heap.size]? = _; rw [e]; exact setRow_heap _ _ _ _ _ _ HXD.out⟩
        have HB14 : Aside0 (Below w.heap.size w (wd.setCells w.heap.size 0 (d.map bcell).toArray.toList)) := ⟨by show Below w.heap.size w (wd.setCells w.heap.size 0 (d.map bcell)); rw [e]; exact below_setRow HBD.out (Nat.le_refl _) _⟩
        clear e
        generalize wd.setCells w.heap.size 0 (d.map bcell).toArray.toList = w13 at HX14 HB14 ⊢
        try simp only [Act.put, List.setIfInBounds_toArray, List.set_cons_zero, List.set_cons_succ]
        refine wpAnyB_one (i := 4) rfl (by kernel_rfl) (fun K8 hK8 => ?_)
        go_simp
        refine hK8 _ _ (fun h => Bool.noConfusion (h.symm.trans (show _ = true by kernel_rfl))) ?_
        refine wpAnyB_done (by kernel_rfl) ?_ _
        clear hK K9 hK8 K8 HELD HXD HBD
        try simp only [Act.put, List.setIfInBounds_toArray, List.set_cons_zero, List.set_cons_succ]
        go_wp2
        refine bodyPost_ret (results_tmp_row_tmp rfl _ _ w.heap.size 29 (d.map bcell).toArray (0, 0) _ rfl HX14.out Tryd.underlying29 rfl (by rw [List.size_toArray, List.length_map, HL.out]; kernel_rfl)) rfl ⟨d, HL.out, rfl, HB14.out⟩
      · have dd : decide (sg = 0) = false := decide_eq_false hg
        rw [if_neg (by intro h; exact hg h.2.2)] at HR; subst HR
        go_wp2_with (first
      | (go_at_call 50; ((with_reducible refine (CC.out _).mono ?_)); rintro e w2 ⟨rfl, hb⟩; have HB2 := Aside0.mk (HB1.out.trans (hb.mono HB1.out.size)); have HX2 := Aside0.mk ((hb.block _ (Array.getElem?_eq_some_iff.1 HX1.out).1).trans HX1.out); clear hb)
      | (go_at_call 51; ((with_reducible refine (CD.out _).mono ?_)); rintro e w3 ⟨d, hdl, rfl, hb⟩; have HL := Aside0.mk hdl; clear hdl; have HB3 := Aside0.mk (HB2.out.trans (hb.mono HB2.out.size)); have HX3 := Aside0.mk ((hb.block _ (Array.getElem?_eq_some_iff.1 HX2.out).1).trans HX2.out); clear hb)
      | ((with_reducible refine gate_store (t := 29) (p := 8) rfl ?_); refine wpList_store_row' rfl 29 (.tmp 8) (.tmp 19) rfl w3.heap.size 29 (List.replicate 32 (Value.int .u8 0)).toArray (d.map bcell).toArray rfl rfl (World.alloc_heap_new w3 _) (by rw [List.size_toArray, List.length_map, HL.out]; kernel_rfl) (by rw [List.size_toArray, List.size_toArray, List.length_map, HL.out]; rfl) (all_oneCell_toArray fun u hu => by obtain ⟨y, _, rfl⟩ := List.mem_map.1 hu; rfl) ?_; intro w4 hw4; have hb4 : Below w3.heap.size w3 w4 := (by rw [hw4]; exact below_setRow ((Below.refl w3.heap.size w3).alloc (Nat.le_refl _) _) (Nat.le_refl _) _); have HD4 : Aside0 (w4.heap[w3.heap.size]? = some (.cells (d.map bcell).toArray 29 (0, 0))) := ⟨by rw [hw4]; exact setRow_heap _ _ _ _ _ _ (World.alloc_heap_new w3 _)⟩; have HB4 := Aside0.mk (HB3.out.trans (hb4.mono HB3.out.size)); have HX4 := Aside0.mk ((hb4.block _ (Array.getElem?_eq_some_iff.1 HX3.out).1).trans HX3.out); clear hw4 hb4)
      | (go_at_call 16; ((with_reducible refine (C1.out _).mono ?_)); rintro e w5 ⟨rfl, hb⟩; have HB5 := Aside0.mk (HB4.out.trans (hb.mono HB4.out.size)); have HX5 := Aside0.mk ((hb.block _ (Array.getElem?_eq_some_iff.1 HX4.out).1).trans HX4.out); have HD5 := Aside0.mk ((hb.block _ (Array.getElem?_eq_some_iff.1 HD4.out).1).trans HD4.out); clear hb)
      | ((with_reducible refine gate_store (t := 29) (p := 3) rfl ?_); refine wpList_store_row' rfl 29 (.tmp 3) (.tmp 32) rfl w.heap.size 29 (List.replicate 32 (Value.int .u8 0)).toArray ((List.replicate 32 (0 : UInt8)).map bcell).toArray rfl rfl HX5.out (by kernel_rfl) (by kernel_rfl) (by kernel_rfl) ?_; intro w9 hw9; have HX9 : Aside0 (w9.heap[w.heap.size]? = some (.cells ((List.replicate 32 (0 : UInt8)).map bcell).toArray 29 (0, 0))) := ⟨by rw [hw9]; exact setRow_heap _ _ _ _ _ _ HX5.out⟩; have HB9 : Aside0 (Below w.heap.size w w9) := ⟨by rw [hw9]; exact below_setRow HB5.out (Nat.le_refl _) _⟩; clear hw9))
        refine bodyPost_ret (results_tmp_row_tmp rfl _ _ w.heap.size 29 ((List.replicate 32 (0 : UInt8)).map bcell).toArray (0, 0) _ rfl HX9.out Tryd.underlying29 rfl (by kernel_rfl)) rfl ⟨List.replicate 32 0, rfl, rfl, HB9.out⟩
end Go.Proofs.YtdjhhljijpadoaaDoor.Sha
/- seal.count, seal.Ring.Count. -/
namespace Go.Proofs.YtdjhhljijpadoaaDoor.Table
open Go.Shelf Go.Proofs.YtdjhhljijpadoaaDoor.Tail Go.Proofs.YtdjhhljijpadoaaDoor.Lay2 Go.Proofs.YtdjhhljijpadoaaDoor.Sha Go.RowKit Go.Proofs.YtdjhhljijpadoaaDoor.Q Go.Proofs.YtdjhhljijpadoaaDoorW.PrintWords Go.Proofs.YtdjhhljijpadoaaDoorW.PrintLast Go.Proofs.YtdjhhljijpadoaaDoorW.PrintMore Go.Proofs.YtdjhhljijpadoaaDoor.Bytes
set_option linter.unusedVariables false
set_option linter.unusedSimpArgs false
theorem contains_calls (W : World) (v : Value) (xs : List ByteArray) (x : ByteArray) (h : Row W v xs) : Calls Tryd.prog 40 #[v, .string x] W fun e w' => e = .returned (.bool (Lib.containsS xs x)) ∧ w' = W := by
  rcases h with ⟨rfl, rfl⟩ | ⟨g, cap, rfl, hq⟩
  · exact Tryd.slices_Contains_string_empty none 0 x W
  · have hc := hq.capm
    have hl := hq.len
    have := Tryd.slices_Contains_string g 0 xs.length cap xs x W (Nat.le_refl _) (by unfold maxLen at hc; omega) (fun j hj => by rw [Nat.zero_add]; exact hq.cell j _ (by rw [List.getD_eq_getElem?_getD, List.getElem?_eq_getElem hj]; rfl))
    rwa [List.take_length] at this
theorem cell_below {w W : World} (hb : Below w.heap.size w W) {a : Addr} {v : Value} (h : w.cell? a = some v) : W.cell? a = some v := by
  have hlt : a.block < w.heap.size := by
    rcases Nat.lt_or_ge a.block w.heap.size with h' | h'
    · exact h'
    · simp [World.cell?, Array.getElem?_eq_none h'] at h
  unfold World.cell? at h ⊢
  rw [hb.block _ hlt]
  exact h
theorem nil_R {W : World} {base : Nat} : Kd.R Kd.string 9 W base (fun _ => True) (.slice none 0 0) [] := ⟨fun _ _ => trivial, [], World.ownsRow_nil _ _ _ _, reps_strings _ _ _ []⟩
theorem row_of_R {W : World} {base : Nat} {v : Value} {xs : List ByteArray} (h : Kd.R Kd.string 9 W base (fun _ => True) v xs) : Row W v xs := by
  rcases SQ.of_R h with h | ⟨g, cap, e, hq, _, _⟩
  · exact Or.inl h
  · exact Or.inr ⟨g, cap, e, hq⟩
theorem r_below {W W' : World} {base : Nat} {v : Value} {xs : List ByteArray} (h : Kd.R Kd.string 9 W base (fun _ => True) v xs) (hb : Below W.heap.size W W') : Kd.R Kd.string 9 W' base (fun _ => True) v xs := by
  rcases SQ.of_R h with ⟨rfl, rfl⟩ | ⟨g, cap, rfl, hq, hg, _⟩
  · exact nil_R
  · exact (hq.below hb).toR hg
theorem splitB_size (s : ByteArray) : (splitB s).1.size ≤ s.size := by
  unfold splitB
  split
  · exact (cutB_size s 58).1
  · exact Nat.zero_le _
/-- Whose signatures are right: a step more. -/
def countS (ks vs : List ByteArray) (text : ByteArray) (who : List ByteArray) (s : ByteArray) : List ByteArray :=
  if (splitB s).2 = 0 then (if rightB ks vs (splitB s).1 s text = true then (if Lib.containsS who (splitB s).1 = true then who else who ++ [(splitB s).1]) else who) else who
def countL (ks vs : List ByteArray) (text : ByteArray) (signs : List ByteArray) : List ByteArray := signs.foldl (countS ks vs text) []
set_option maxRecDepth 100000 in
set_option maxHeartbeats 8000000 in
theorem count_calls (w : World) (r p : Nat) (vk vv : Value) (ks vs : List ByteArray) (text : ByteArray) (A : Option Addr) (c : Nat) (signs : List ByteArray) (h : Rg w r p vk vv ks vs) (hG : Glob w) (hlen : vs.length = ks.length) (hl : (ks.length + 1) * 16 ≤ 140737488355328) (hv : ∀ v ∈ vs, v.size < 1152921504606846976) (ht : text.size < 1152921504606846000)
    (hC : Kd.C Kd.string w A signs.length signs) (hc : signs.length ≤ c) (hz : ∀ s ∈ signs, s.size ≤ 140737488351232) (hsl : signs.length * 16 ≤ 140737488355328) :
    Calls Tryd.prog 29 #[.iface 38 (.pointer (some ⟨r, 0, none⟩)), .string text, .slice A signs.length c] w fun e w' => e = .returned (.int .i64 ((countL ks vs text signs).length : Nat)) ∧ Below w.heap.size w w' := by
  have HINV : ∀ W, (method 225 38 (.pointer (some ⟨r, 0, none⟩)) "depot/seal.right").run Tryd.prog W = .ok (85, .pointer (some ⟨r, 0, none⟩)) W := fun W => by kernel_rfl
  have HC := Aside0.mk hC
  have HZ := Aside0.mk hz
  have HSL := Aside0.mk hsl
  have hsb : signs.length < 9223372036854775000 := by omega
  have hcl : countL ks vs text signs = (signs.drop 0).foldl (countS ks vs text) [] := by rw [List.drop_zero]; rfl
  have HRT := Aside0.mk (fun (signer sign : ByteArray) (hs : signer.size ≤ 140737488355000) (W : World) (hb : Below w.heap.size w W) => right_calls W r p vk vv ks vs signer sign text (h.below hb) (hG.below hb hG.lt) hlen hl hs hv ht)
  obtain ⟨T, hT⟩ : ∃ T, countL ks vs text signs = T := ⟨_, rfl⟩
  rw [hT] at hcl ⊢
  have HCL := Aside0.mk hcl
  clear hT hcl hC hz hsl hl ht hlen hv hG h
  go_enter Tryd.func29, Tryd.ntmps29
  go_wp2
  go_loopg [7, 15] signs.length (fun g v7 v15 wx => ∃ (i : Nat) (who : List ByteArray) (b : Option Addr) (n c : Nat), i + g = signs.length ∧ v15 = .int .i64 (i : Int) ∧ v7 = .slice b n c ∧ Aside0 (Kd.R Kd.string 9 wx w.heap.size (fun _ => True) (.slice b n c) who) ∧ Aside0 (Below w.heap.size w wx) ∧ Aside0 (T = (signs.drop i).foldl (countS ks vs text) who) ∧ Aside0 (who.length ≤ i))
  case atStart => exact ⟨0, [], _, _, _, by omega, rfl, rfl, ⟨nil_R⟩, ⟨Below.refl _ _⟩, HCL, ⟨Nat.le_refl _⟩⟩
  case round =>
    obtain ⟨i, who, b7, n7, c7, hig, rfl, rfl, HR, HB, HT, HWI⟩ := hrel
    cases gk with
    | zero =>
      obtain rfl : i = signs.length := by omega
      have HT2 := Aside0.mk (show T = who by rw [HT.out, List.drop_length]; rfl)
      have HRW := Aside0.mk (row_of_R HR.out)
      clear HT
      rcases SQ.of_R HR.out with ⟨e7, rfl⟩ | ⟨g, cap, e7, hq, _, _⟩
      · cases e7
        go_wp2
        go_ret
        exact ⟨by rw [HT2.out]; rfl, HB.out⟩
      · clear hq
        cases e7
        go_wp2
        go_ret
        exact ⟨by rw [HT2.out]; rfl, HB.out⟩
    | succ g =>
      have hi : i < signs.length := by omega
      have p1 : 0 ≤ (i : Int) := by omega
      have p2 : (i : Int) < (signs.length : Int) := by omega
      obtain ⟨ad, rfl, hcell⟩ := Kd.at_string (HC.out) (i : Int) p1 p2
      have hcw := cell_below HB.out hcell
      obtain ⟨s, hs⟩ : ∃ s, rdOf ByteArray.empty signs (i : Int) = s := ⟨_, rfl⟩
      have hgs : signs[i]? = some s := by
        rw [← hs]
        unfold rdOf
        rw [Int.toNat_natCast, List.getD_eq_getElem?_getD, List.getElem?_eq_getElem hi]
        rfl
      have hsz := HZ.out s (List.mem_of_getElem? hgs)
      have HST := Aside0.mk (show T = (signs.drop (i + 1)).foldl (countS ks vs text) (countS ks vs text who s) from by
        rw [HT.out, List.drop_eq_getElem_cons hi, List.foldl_cons]
        congr 2
        exact (List.getElem?_eq_some_iff.1 hgs).2)
      rw [hs, Int.toNat_natCast] at hcw
      have CSS := Aside0.mk (fun (W : World) => splitSign_calls s W hsz)
      have hss := splitB_size s
      have HS := Aside0.mk (show countS ks vs text who s = if (splitB s).2 = 0 then (if rightB ks vs (splitB s).1 s text = true then (if Lib.containsS who (splitB s).1 = true then who else who ++ [(splitB s).1]) else who) else who from rfl)
      obtain ⟨sp, hsp⟩ : ∃ a, splitB s = a := ⟨_, rfl⟩
      simp only [hsp] at CSS HS hss
      obtain ⟨rb, hrb⟩ : ∃ a, rightB ks vs sp.1 s text = a := ⟨_, rfl⟩
      have CRT := Aside0.mk (HRT.out sp.1 s (by omega))
      simp only [hrb] at CRT HS
      obtain ⟨cb, hcb⟩ : ∃ a, Lib.containsS who sp.1 = a := ⟨_, rfl⟩
      have CCT := Aside0.mk (fun (W : World) (hr : Kd.R Kd.string 9 W w.heap.size (fun _ => True) (.slice b7 n7 c7) who) => contains_calls W (.slice b7 n7 c7) who sp.1 (row_of_R hr))
      simp only [hcb] at CCT HS
      have HWL := Aside0.mk (show (who.length + 1) * 16 ≤ 140737488355328 by have := HWI.out; have := HSL.out; omega)
      clear hsp hrb hcb hs hgs hcell hss hsz HT
      have q1 := eq_true p1
      have q2 := eq_true p2
      by_cases h0 : sp.2 = 0
      · rw [if_pos h0] at HS
        have d1 : decide (sp.2 = 0) = true := decide_eq_true h0
        cases rb with
        | true =>
          rw [if_pos rfl] at HS
          cases cb with
          | true =>
            rw [if_pos rfl] at HS
            go_wp2_with (first
              | (go_at_call 39; ((with_reducible refine (CSS.out _).mono ?_)); rintro e w2 ⟨d, hdl, rfl, hb⟩; have HL := Aside0.mk hdl; have HB2 := Aside0.mk (HB.out.trans (hb.mono HB.out.size)); have HR2 := Aside0.mk (r_below HR.out hb); clear hb hdl)
              | ((with_reducible refine gate_store (t := 29) (p := 11) rfl ?_); refine wpList_store_row' rfl 29 (.tmp 11) (.tmp 23) rfl w2.heap.size 29 (List.replicate 32 (Value.int .u8 0)).toArray (d.map bcell).toArray rfl rfl (World.alloc_heap_new w2 _) (by rw [List.size_toArray, List.length_map, HL.out]; kernel_rfl) (by rw [List.size_toArray, List.size_toArray, List.length_map, HL.out]; rfl) (all_oneCell_toArray fun u hu => by obtain ⟨y, _, rfl⟩ := List.mem_map.1 hu; rfl) ?_; intro w3 hw3; have hb3 : Below w2.heap.size w2 w3 := (by rw [hw3]; exact below_setRow ((Below.refl w2.heap.size w2).alloc (Nat.le_refl _) _) (Nat.le_refl _) _); have HB3 := Aside0.mk (HB2.out.trans (hb3.mono HB2.out.size)); have HR3 := Aside0.mk (r_below HR2.out hb3); clear hw3 hb3)
              | (go_at_call 85; ((with_reducible refine (CRT.out w3 HB3.out).mono ?_)); rintro e w4 ⟨rfl, hb⟩; have HB4 := Aside0.mk (HB3.out.trans (hb.mono HB3.out.size)); have HR4 := Aside0.mk (r_below HR3.out hb); clear hb)
              | (go_at_call 40; ((with_reducible refine (CCT.out w4 HR4.out).mono ?_)); rintro e w5 ⟨rfl, rfl⟩))
            go_roundg g
            case measure => omega
            case rel => exact ⟨i + 1, who, _, _, _, by omega, by go_num, rfl, HR4, HB4, ⟨by rw [HST.out, HS.out]⟩, ⟨by have := HWI.out; omega⟩⟩
          | false =>
            rw [if_neg (by intro h; cases h)] at HS
            go_wp2_with (first
              | (go_at_call 39; ((with_reducible refine (CSS.out _).mono ?_)); rintro e w2 ⟨d, hdl, rfl, hb⟩; have HL := Aside0.mk hdl; have HB2 := Aside0.mk (HB.out.trans (hb.mono HB.out.size)); have HR2 := Aside0.mk (r_below HR.out hb); clear hb hdl)
              | ((with_reducible refine gate_store (t := 29) (p := 11) rfl ?_); refine wpList_store_row' rfl 29 (.tmp 11) (.tmp 23) rfl w2.heap.size 29 (List.replicate 32 (Value.int .u8 0)).toArray (d.map bcell).toArray rfl rfl (World.alloc_heap_new w2 _) (by rw [List.size_toArray, List.length_map, HL.out]; kernel_rfl) (by rw [List.size_toArray, List.size_toArray, List.length_map, HL.out]; rfl) (all_oneCell_toArray fun u hu => by obtain ⟨y, _, rfl⟩ := List.mem_map.1 hu; rfl) ?_; intro w3 hw3; have hb3 : Below w2.heap.size w2 w3 := (by rw [hw3]; exact below_setRow ((Below.refl w2.heap.size w2).alloc (Nat.le_refl _) _) (Nat.le_refl _) _); have HB3 := Aside0.mk (HB2.out.trans (hb3.mono HB2.out.size)); have HR3 := Aside0.mk (r_below HR2.out hb3); clear hw3 hb3)
              | (go_at_call 85; ((with_reducible refine (CRT.out w3 HB3.out).mono ?_)); rintro e w4 ⟨rfl, hb⟩; have HB4 := Aside0.mk (HB3.out.trans (hb.mono HB3.out.size)); have HR4 := Aside0.mk (r_below HR3.out hb); clear hb)
              | (go_at_call 40; ((with_reducible refine (CCT.out w4 HR4.out).mono ?_)); rintro e w5 ⟨rfl, rfl⟩)
              | ((with_reducible refine gate_builtin (b := .append) (xs := #[.tmp 40, .tmp 42]) rfl ?_); at_builtin; generalize hW6 : World.alloc w5 (.cells #[.string sp.1] 9) = w6; have hb6 := below_alloc1 hW6; have hq6 : SQ w6 w5.heap.size 1 [sp.1] := (by rw [← hW6]; exact ⟨⟨_, World.alloc_heap_new w5 _, rfl, rfl⟩, Nat.le_refl _, by decide⟩); refine Kd.R_append_row Value.string (⟨#[]⟩ : ByteArray) (w0 := w) w.heap.size rfl (.tmp 40) (.tmp 42) 37 9 (.string ⟨#[]⟩) 16 rfl Tryd.underlying37 rfl rfl (by decide) (.slice b7 n7 c7) who [sp.1] _ 1 1 (fun _ => True) rfl rfl (fun _ _ => trivial) (r_below HR4.out hb6) hq6.all (HB4.out.trans (hb6.mono HB4.out.size)) (Nat.le_trans HB4.out.size hb6.size) (by have := HWL.out; omega) ?_; intro v1 w7 ho hb hg hat; obtain ⟨b8, n8, c8, rfl⟩ := row_slice (row_of_R ho); have HR7 := Aside0.mk ho; have HB7 := Aside0.mk hb; clear ho hb hg hat hq6 hb6 hW6))
            go_roundg g
            case measure => omega
            case rel => exact ⟨i + 1, who ++ [sp.1], _, _, _, by omega, by go_num, rfl, HR7, HB7, ⟨by rw [HST.out, HS.out]⟩, ⟨by have := HWI.out; rw [List.length_append, List.length_singleton]; omega⟩⟩
        | false =>
          rw [if_neg (by intro h; cases h)] at HS
          go_wp2_with (first
              | (go_at_call 39; ((with_reducible refine (CSS.out _).mono ?_)); rintro e w2 ⟨d, hdl, rfl, hb⟩; have HL := Aside0.mk hdl; have HB2 := Aside0.mk (HB.out.trans (hb.mono HB.out.size)); have HR2 := Aside0.mk (r_below HR.out hb); clear hb hdl)
              | ((with_reducible refine gate_store (t := 29) (p := 11) rfl ?_); refine wpList_store_row' rfl 29 (.tmp 11) (.tmp 23) rfl w2.heap.size 29 (List.replicate 32 (Value.int .u8 0)).toArray (d.map bcell).toArray rfl rfl (World.alloc_heap_new w2 _) (by rw [List.size_toArray, List.length_map, HL.out]; kernel_rfl) (by rw [List.size_toArray, List.size_toArray, List.length_map, HL.out]; rfl) (all_oneCell_toArray fun u hu => by obtain ⟨y, _, rfl⟩ := List.mem_map.1 hu; rfl) ?_; intro w3 hw3; have hb3 : Below w2.heap.size w2 w3 := (by rw [hw3]; exact below_setRow ((Below.refl w2.heap.size w2).alloc (Nat.le_refl _) _) (Nat.le_refl _) _); have HB3 := Aside0.mk (HB2.out.trans (hb3.mono HB2.out.size)); have HR3 := Aside0.mk (r_below HR2.out hb3); clear hw3 hb3)
              | (go_at_call 85; ((with_reducible refine (CRT.out w3 HB3.out).mono ?_)); rintro e w4 ⟨rfl, hb⟩; have HB4 := Aside0.mk (HB3.out.trans (hb.mono HB3.out.size)); have HR4 := Aside0.mk (r_below HR3.out hb); clear hb))
          go_roundg g
          case measure => omega
          case rel => exact ⟨i + 1, who, _, _, _, by omega, by go_num, rfl, HR4, HB4, ⟨by rw [HST.out, HS.out]⟩, ⟨by have := HWI.out; omega⟩⟩
      · rw [if_neg h0] at HS
        have d1 : decide (sp.2 = 0) = false := decide_eq_false h0
        go_wp2_with (first
              | (go_at_call 39; ((with_reducible refine (CSS.out _).mono ?_)); rintro e w2 ⟨d, hdl, rfl, hb⟩; have HL := Aside0.mk hdl; have HB2 := Aside0.mk (HB.out.trans (hb.mono HB.out.size)); have HR2 := Aside0.mk (r_below HR.out hb); clear hb hdl)
              | ((with_reducible refine gate_store (t := 29) (p := 11) rfl ?_); refine wpList_store_row' rfl 29 (.tmp 11) (.tmp 23) rfl w2.heap.size 29 (List.replicate 32 (Value.int .u8 0)).toArray (d.map bcell).toArray rfl rfl (World.alloc_heap_new w2 _) (by rw [List.size_toArray, List.length_map, HL.out]; kernel_rfl) (by rw [List.size_toArray, List.size_toArray, List.length_map, HL.out]; rfl) (all_oneCell_toArray fun u hu => by obtain ⟨y, _, rfl⟩ := List.mem_map.1 hu; rfl) ?_; intro w3 hw3; have hb3 : Below w2.heap.size w2 w3 := (by rw [hw3]; exact below_setRow ((Below.refl w2.heap.size w2).alloc (Nat.le_refl _) _) (Nat.le_refl _) _); have HB3 := Aside0.mk (HB2.out.trans (hb3.mono HB2.out.size)); have HR3 := Aside0.mk (r_below HR2.out hb3); clear hw3 hb3))
        go_roundg g
        case measure => omega
        case rel => exact ⟨i + 1, who, _, _, _, by omega, by go_num, rfl, HR3, HB3, ⟨by rw [HST.out, HS.out]⟩, ⟨by have := HWI.out; omega⟩⟩
end Go.Proofs.YtdjhhljijpadoaaDoor.Table
/- Letters of 32 bytes are read again (plain). -/
set_option linter.unusedVariables false
set_option linter.unusedSimpArgs false
namespace Go.Proofs.YtdjhhljijpadoaaDoor.B32
open Go.RowKit Go.Proofs.YtdjhhljijpadoaaDoor.Q Go.Proofs.YtdjhhljijpadoaaDoorW.PrintWords Go.Proofs.YtdjhhljijpadoaaDoorW.PrintLast Go.Proofs.YtdjhhljijpadoaaDoorW.PrintMore Go.Proofs.YtdjhhljijpadoaaDoor.Bytes
theorem val_lt32 : ∀ v, v < 32 → val (lt32 v) = (v : Int) := by decide +kernel
theorem num_d32 (N t : Nat) : num (d32 t N) = N % 32 ^ t := by
  induction t with
  | zero => simp [d32, num, Nat.mod_one]
  | succ t ih =>
    rw [d32_succ, num_append, ih, d32_len, Nat.mod_pow_succ]
    have h : N / 32 ^ t % 32 < 32 := Nat.mod_lt _ (by decide)
    simp only [num, val_lt32 _ h, Int.toNat_natCast, Nat.mul_zero, Nat.add_zero]
theorem dec_enc (l : List UInt8) (hl : l.length = 32) : (dec (enc l)).2 = 0 ∧ (dec (enc l)).1.size = 32 := by
  have h52 : (enc l).length = 52 := by rw [enc_len, hl]
  have hN := numB_lt l
  rw [hl] at hN
  have hc : ¬ ∃ c ∈ enc l, val c < 0 := by
    rintro ⟨c, hc, hv⟩
    unfold enc d32 at hc
    rw [List.mem_reverse, List.mem_map] at hc
    obtain ⟨j, _, rfl⟩ := hc
    rw [val_lt32 _ (Nat.mod_lt _ (by decide))] at hv
    omega
  have hr : num (enc l).reverse / 256 ^ 32 = 0 := by
    rw [Nat.div_eq_zero_iff]
    right
    unfold enc
    rw [List.reverse_reverse, num_d32]
    exact Nat.lt_of_le_of_lt (Nat.mod_le _ _) hN
  unfold dec
  rw [h52, if_neg (by decide), if_neg hc, if_pos (by exact hr)]
  refine ⟨rfl, ?_⟩
  rw [size_bs]
  simp [strOfNums, bs, digs_length]
end Go.Proofs.YtdjhhljijpadoaaDoor.B32
namespace Go.Proofs.YtdjhhljijpadoaaDoor.Sha
open Go.RowKit Go.Proofs.YtdjhhljijpadoaaDoor.Bytes
theorem dgOk_enc (l : List UInt8) (hl : l.length = 32) : dgOk ⟨(B32.enc l).toArray⟩ = true := by
  have h := B32.dec_enc l hl
  unfold dgOk
  rw [bs_mk, h.1, h.2]
  rfl
end Go.Proofs.YtdjhhljijpadoaaDoor.Sha
/- The laws' awake over seal: a ring of one signer, one signature. -/
namespace Go.Proofs.YtdjhhljijpadoaaDoor.Table
open Go.Shelf Go.Proofs.YtdjhhljijpadoaaDoor.Tail Go.Proofs.YtdjhhljijpadoaaDoor.Lay2 Go.Proofs.YtdjhhljijpadoaaDoor.Sha Go.RowKit Go.Proofs.YtdjhhljijpadoaaDoor.Q Go.Proofs.YtdjhhljijpadoaaDoorW.PrintWords Go.Proofs.YtdjhhljijpadoaaDoorW.PrintLast Go.Proofs.YtdjhhljijpadoaaDoorW.PrintMore Go.Proofs.YtdjhhljijpadoaaDoor.Bytes
set_option linter.unusedVariables false
set_option linter.unusedSimpArgs false
theorem indexByte_at (a b : List UInt8) (c : UInt8) (h : c ∉ a) : Lib.indexByte (a ++ c :: b) c = a.length := by
  have hge := Lib.indexByte_ge (a ++ c :: b) c
  have hget : (a ++ c :: b)[a.length]? = some c := by simp
  by_cases hn : Lib.indexByte (a ++ c :: b) c = -1
  · exact absurd hget (Lib.indexByte_none hn a.length)
  · obtain ⟨o, ho⟩ : ∃ o : Nat, Lib.indexByte (a ++ c :: b) c = o := ⟨(Lib.indexByte (a ++ c :: b) c).toNat, by omega⟩
    obtain ⟨h1, h2⟩ := Lib.indexByte_some ho
    rw [ho]
    congr 1
    rcases Nat.lt_trichotomy o a.length with hlt | he | hgt
    · rw [List.getElem?_append_left hlt] at h1
      exact absurd (List.mem_of_getElem? h1) h
    · exact he
    · exact absurd hget (h2 _ hgt)
theorem sg_not_colon {l : List UInt8} (h : Signer.signNo l = 0) : (58 : UInt8) ∉ l := by
  intro hm
  unfold Signer.signNo at h
  split at h
  · cases h
  · unfold Signer.allS at h
    split at h
    · next ha =>
      have := ha 58 hm
      exact absurd this (by decide)
    · cases h
theorem bs_signB (name key text : ByteArray) : bs (signB name key text) = bs name ++ 58 :: B32.enc (mac (bs key) (bs text)) := by
  unfold signB
  rw [bs_append, bs_append, bs_mk]
  simp [bs]
theorem tail_of (l E : List UInt8) (n : Nat) (h : n = l.length) : ((l ++ 58 :: E).drop (n + 1)).take ((l ++ 58 :: E).length - (n + 1)) = E := by
  subst h
  rw [show l ++ 58 :: E = (l ++ [58]) ++ E by simp, List.drop_append_of_le_length (by simp), List.drop_of_length_le (by simp), List.nil_append, List.take_of_length_le (by simp; omega)]
theorem split_sign (name key text : ByteArray) (h : Signer.signNo (bs name) = 0) : splitB (signB name key text) = (name, 0) := by
  have hi : Lib.indexByte (signB name key text).data.toList 58 = (bs name).length := by
    have := indexByte_at (bs name) (B32.enc (mac (bs key) (bs text))) 58 (sg_not_colon h)
    rw [← bs_signB] at this
    exact this
  have hcut : cutB (signB name key text) 58 = (name, ⟨(B32.enc (mac (bs key) (bs text))).toArray⟩, true) := by
    unfold cutB
    rw [hi, if_pos (by omega)]
    have e1 : (signB name key text).extract 0 ((bs name).length : Int).toNat = name := by
      apply bs_inj
      rw [bs_extract, bs_signB]
      simp
    have e2 : (signB name key text).extract (((bs name).length : Int).toNat + 1) (signB name key text).size = ⟨(B32.enc (mac (bs key) (bs text))).toArray⟩ := by
      apply bs_inj
      rw [bs_extract, bs_mk (B32.enc (mac (bs key) (bs text))), size_bs (signB name key text), bs_signB]
      exact tail_of _ _ _ rfl
    rw [e1, e2]
  unfold splitB
  rw [hcut, if_pos ⟨rfl, dgOk_enc _ (mac_len _ _), h⟩]
theorem nil_C {w : World} : Kd.C Kd.string w none 0 [] := ⟨rfl, by decide, fun h => absurd h (by decide)⟩
theorem below_fr {S : Nat → Prop} {B : Nat} {w W W2 : World} (h : Below B w W) (k : Fr S W W2) (hS : ∀ g, S g → B ≤ g) (hB : B ≤ W.heap.size) : Below B w W2 :=
  h.trans ⟨k.os, k.tape, k.output, k.size, fun i hi => k.block i (by omega) (fun s => by have := hS i s; omega)⟩
set_option maxRecDepth 100000 in
set_option maxHeartbeats 4000000 in
theorem ringCount_calls (w : World) (r p : Nat) (vk vv : Value) (ks vs : List ByteArray) (text : ByteArray) (A : Option Addr) (c : Nat) (signs : List ByteArray) (h : Rg w r p vk vv ks vs) (hG : Glob w) (hlen : vs.length = ks.length) (hl : (ks.length + 1) * 16 ≤ 140737488355328) (hv : ∀ v ∈ vs, v.size < 1152921504606846976) (ht : text.size < 1152921504606846000)
    (hC : Kd.C Kd.string w A signs.length signs) (hc : signs.length ≤ c) (hz : ∀ s ∈ signs, s.size ≤ 140737488351232) (hsl : signs.length * 16 ≤ 140737488355328) :
    Calls Tryd.prog 14 #[.pointer (some ⟨r, 0, none⟩), .string text, .slice A signs.length c] w fun e w' => e = .returned (.int .i64 ((countL ks vs text signs).length : Nat)) ∧ Below w.heap.size w w' := by
  have CC := Aside0.mk (count_calls w r p vk vv ks vs text A c signs h hG hlen hl hv ht hC hc hz hsl)
  clear h hG hlen hl hv ht hC hc hz hsl
  generalize (countL ks vs text signs).length = N at CC ⊢
  go_enter Tryd.func14, Tryd.ntmps14
  go_wp2_with (first
    | (go_at_call 29; ((with_reducible refine CC.out.mono ?_)); rintro e w2 ⟨rfl, hb⟩; have HB2 := Aside0.mk hb; clear hb))
  go_ret
  exact ⟨rfl, HB2.out⟩
def sA : ByteArray := ⟨#[97]⟩
def sKey : ByteArray := ⟨#[107, 101, 121]⟩
theorem add_first : addR [] [] sA sKey = (0, [sA], [sKey]) := by decide +kernel
theorem get_first : getV [sA] [sKey] sA = (sKey, true) := by decide +kernel
theorem sign_first : Signer.signNo (bs sA) = 0 := by decide +kernel
theorem count_first (text : ByteArray) : countL [sA] [sKey] text [signB sA sKey text] = [sA] := by
  unfold countL
  rw [List.foldl_cons, List.foldl_nil]
  unfold countS
  rw [split_sign _ _ _ sign_first, if_pos rfl]
  have : rightB [sA] [sKey] sA (signB sA sKey text) text = true := by
    unfold rightB
    rw [get_first]
    simp only [Bool.true_and, decide_eq_true sign_first, decide_true]
  rw [this, if_pos rfl, if_neg (by decide)]
  rfl
theorem signB_size (name key text : ByteArray) : (signB name key text).size = name.size + 53 := by
  rw [size_bs, bs_signB, List.length_append, List.length_cons, B32.enc_len, mac_len, size_bs]
theorem fr_ring {w w1 w2 : World} (hb : Below w.heap.size w w1) (hr : Rg w1 (w.heap.size + 1) w.heap.size (.slice none 0 0) (.slice none 0 0) [] []) (hf : Fr (Ow w.heap.size (.slice none 0 0) (.slice none 0 0)) w1 w2) : Below w.heap.size w w2 :=
  below_fr hb hf (fun g hg => by
    rcases hg with rfl | ⟨n, c, e⟩ | ⟨n, c, e⟩
    · exact Nat.le_refl _
    · cases e
    · cases e) hb.size
set_option maxRecDepth 100000 in
set_option maxHeartbeats 4000000 in
theorem awake_calls (w : World) (hG : Glob w) : Calls Tryd.prog 6 #[] w fun e w' => e = .returned (.bool true) ∧ Below w.heap.size w w' := by
  have CN := Aside0.mk (newRing_calls w)
  have CA := Aside0.mk (fun (W : World) (h : Rg W (w.heap.size + 1) w.heap.size (.slice none 0 0) (.slice none 0 0) [] []) => add_calls W _ _ _ _ _ _ sA sKey h rfl (by decide) (by decide))
  rw [add_first] at CA
  have CS := Aside0.mk (fun (W : World) (hb : Below w.heap.size w W) => sign_good sA sKey ⟨#[116, 101, 120, 116]⟩ W (hG.below hb hG.lt) sign_first (by decide) (by decide))
  have hcf := count_first ⟨#[116, 101, 120, 116]⟩
  have hsz : (signB sA sKey ⟨#[116, 101, 120, 116]⟩).size = 54 := signB_size _ _ _
  obtain ⟨S, hS⟩ : ∃ S, signB sA sKey ⟨#[116, 101, 120, 116]⟩ = S := ⟨_, rfl⟩
  rw [hS] at hcf hsz
  simp only [hS] at CS
  have CC1 := Aside0.mk (fun (W : World) (vk vv : Value) (hb : Below w.heap.size w W) (h : Rg W (w.heap.size + 1) w.heap.size vk vv [sA] [sKey]) => (show Calls Tryd.prog 14 #[.pointer (some ⟨w.heap.size + 1, 0, none⟩), .string ⟨#[116, 101, 120, 116]⟩, .slice (some ⟨W.heap.size, 0, none⟩) 1 1] (W.alloc (.cells #[.string S] 9)) (fun e w' => e = .returned (.int .i64 1) ∧ Below (W.alloc (.cells #[.string S] 9)).heap.size (W.alloc (.cells #[.string S] 9)) w') from by
    have := ringCount_calls (W.alloc (.cells #[.string S] 9)) _ _ _ _ _ _ ⟨#[116, 101, 120, 116]⟩ (some ⟨W.heap.size, 0, none⟩) 1 [S] (h.below ((Below.refl _ W).alloc (Nat.le_refl _) _)) ((hG.below hb hG.lt).below ((Below.refl _ W).alloc (Nat.le_refl _) (.cells #[.string S] 9)) (hG.below hb hG.lt).lt) rfl (by decide) (by decide) (by decide) (SQ.all (cap := 1) ⟨⟨_, World.alloc_heap_new W _, rfl, rfl⟩, Nat.le_refl _, by decide⟩) (Nat.le_refl _) (fun s hs => by rw [List.mem_singleton] at hs; subst hs; omega) (by show 1 * 16 ≤ 140737488355328; decide)
    rw [hcf] at this
    exact this))
  have CC2 := Aside0.mk (fun (W : World) (vk vv : Value) (hb : Below w.heap.size w W) (h : Rg W (w.heap.size + 1) w.heap.size vk vv [sA] [sKey]) => (show Calls Tryd.prog 14 #[.pointer (some ⟨w.heap.size + 1, 0, none⟩), .string ⟨#[116, 101, 120, 116, 115]⟩, .slice none 0 0] W (fun e w' => e = .returned (.int .i64 0) ∧ Below W.heap.size W w') from ringCount_calls W _ _ _ _ _ _ ⟨#[116, 101, 120, 116, 115]⟩ none 0 [] h (hG.below hb hG.lt) rfl (by decide) (by decide) (by decide) nil_C (Nat.le_refl _) (fun s hs => by cases hs) (by decide)))
  clear hS hcf hG
  unfold sA sKey at CA CS CC1 CC2
  go_enter Tryd.func6, Tryd.ntmps6
  go_wp2_with (first
    | (go_at_call 12; ((with_reducible refine CN.out.mono ?_)); rintro e w1 ⟨rfl, hr, hb⟩; have HR1 := Aside0.mk hr; have HB1 := Aside0.mk hb; clear hr hb)
    | (go_at_call 13; ((with_reducible refine (CA.out w1 HR1.out).mono ?_)); rintro e w2 ⟨vk, vv, rfl, hr, hf, hk, hv⟩; have HR2 := Aside0.mk hr; have HB2 := Aside0.mk (fr_ring HB1.out HR1.out hf); clear hr hf hk hv)
    | (go_at_call 7; ((with_reducible refine (CS.out w2 HB2.out).mono ?_)); rintro e w3 ⟨rfl, hb⟩; have HB3 := Aside0.mk (HB2.out.trans (hb.mono HB2.out.size)); have HR3 := Aside0.mk (HR2.out.below hb); clear hb)
    | (go_at_call_has 14 (Value.slice (some ⟨w3.heap.size, 0, none⟩) 1 1); ((with_reducible refine (CC1.out w3 vk vv HB3.out HR3.out).mono ?_)); rintro e w4 ⟨rfl, hb⟩; have HB4 := Aside0.mk (HB3.out.trans (((Below.refl _ w3).alloc (Nat.le_refl _) _).mono HB3.out.size |>.trans (hb.mono (Nat.le_trans HB3.out.size ((Below.refl w3.heap.size w3).alloc (Nat.le_refl _) (.cells #[.string S] 9)).size)))); have HR4 := Aside0.mk ((HR3.out.below ((Below.refl _ w3).alloc (Nat.le_refl _) (.cells #[.string S] 9))).below hb); clear hb)
    | (go_at_call 14; ((with_reducible refine (CC2.out w4 vk vv HB4.out HR4.out).mono ?_)); rintro e w5 ⟨rfl, hb⟩; have HB5 := Aside0.mk (HB4.out.trans (hb.mono HB4.out.size)); clear hb))
  go_ret
  exact ⟨rfl, HB5.out⟩
end Go.Proofs.YtdjhhljijpadoaaDoor.Table
/- The plain law of SealTurns: what a ring counts hangs on the set of the signatures alone. -/
namespace Go.Proofs.YtdjhhljijpadoaaDoor.Table
open Go.Shelf Go.Proofs.YtdjhhljijpadoaaDoor.Tail Go.Proofs.YtdjhhljijpadoaaDoor.Lay2 Go.Proofs.YtdjhhljijpadoaaDoor.Sha Go.RowKit Go.Proofs.YtdjhhljijpadoaaDoor.Bytes
set_option linter.unusedVariables false
set_option linter.unusedSimpArgs false
theorem less_irr : ∀ a : List UInt8, Op.bytesLess a a = false
  | [] => rfl
  | x :: a => by
    have : ¬ x < x := by rw [UInt8.lt_iff_toNat_lt]; omega
    simp [Op.bytesLess, this, less_irr a]
theorem less_trans : ∀ a b c : List UInt8, Op.bytesLess a b = true → Op.bytesLess b c = true → Op.bytesLess a c = true
  | [], [], _, h, _ => by simp [Op.bytesLess] at h
  | [], _ :: _, [], _, h => by simp [Op.bytesLess] at h
  | [], _ :: _, _ :: _, _, _ => by simp [Op.bytesLess]
  | _ :: _, [], _, h, _ => by simp [Op.bytesLess] at h
  | _ :: _, _ :: _, [], _, h => by simp [Op.bytesLess] at h
  | x :: a, y :: b, z :: c, h, k => by
    simp only [Op.bytesLess, Bool.or_eq_true, Bool.and_eq_true, decide_eq_true_eq, beq_iff_eq, UInt8.lt_iff_toNat_lt] at h k ⊢
    rcases h with h | ⟨rfl, h⟩
    · rcases k with k | ⟨rfl, k⟩
      · exact Or.inl (by omega)
      · exact Or.inl h
    · rcases k with k | ⟨rfl, k⟩
      · exact Or.inl k
      · exact Or.inr ⟨rfl, less_trans a b c h k⟩
theorem less_or : ∀ a b : List UInt8, a ≠ b → Op.bytesLess a b = false → Op.bytesLess b a = true
  | [], [], h, _ => absurd rfl h
  | [], _ :: _, _, h => by simp [Op.bytesLess] at h
  | _ :: _, [], _, _ => by simp [Op.bytesLess]
  | x :: a, y :: b, h, k => by
    simp only [Op.bytesLess, Bool.or_eq_false_iff, Bool.and_eq_false_iff, decide_eq_false_iff_not, beq_eq_false_iff_ne, Bool.or_eq_true, Bool.and_eq_true, decide_eq_true_eq, beq_iff_eq, UInt8.lt_iff_toNat_lt] at k ⊢
    by_cases e : x = y
    · subst e
      refine Or.inr ⟨rfl, less_or a b (fun e => h (by rw [e])) ?_⟩
      rcases k.2 with k | k
      · exact absurd rfl k
      · exact k
    · have : x.toNat ≠ y.toNat := fun e2 => e (UInt8.toNat_inj.1 e2)
      exact Or.inl (by omega)
def Lt (a b : ByteArray) : Prop := Op.bytesLess a.toList b.toList = true
theorem lt_irr (a : ByteArray) : ¬ Lt a a := by unfold Lt; rw [less_irr]; exact Bool.noConfusion
theorem lt_trans {a b c : ByteArray} (h : Lt a b) (k : Lt b c) : Lt a c := less_trans _ _ _ h k
theorem lt_or {a b : ByteArray} (h : a ≠ b) (k : ¬ Lt a b) : Lt b a := less_or _ _ (fun e => h (bs_inj (by rwa [toList_bs, toList_bs] at e))) (by unfold Lt at k; simpa using k)
def Sorted (ks : List ByteArray) : Prop := ks.Pairwise Lt
theorem bs_spec (less : Nat → Bool) (k n : Nat) (h1 : ∀ t, t < k → less t = true) (h2 : ∀ t, k ≤ t → t < n → less t = false) : ∀ (f lo hi : Nat), hi - lo ≤ f → lo ≤ k → k ≤ hi → hi ≤ n → Lib.bsGo less f lo hi = k
  | 0, lo, hi, hf, a, b, _ => by simp [Lib.bsGo]; omega
  | f + 1, lo, hi, hf, a, b, c => by
    unfold Lib.bsGo
    by_cases hlt : lo < hi
    · rw [if_pos hlt]
      by_cases hm : (lo + hi) / 2 < k
      · rw [h1 _ hm, if_pos rfl]
        exact bs_spec less k n h1 h2 f _ _ (by omega) (by omega) b c
      · rw [h2 _ (by omega) (by omega), if_neg (by simp)]
        exact bs_spec less k n h1 h2 f _ _ (by omega) a (by omega) (by omega)
    · rw [if_neg hlt]
      omega
theorem part (ks : List ByteArray) (x : ByteArray) (h : Sorted ks) : ∃ A B, ks = A ++ B ∧ (∀ a ∈ A, Lt a x) ∧ (∀ b ∈ B, ¬ Lt b x) := by
  induction ks with
  | nil => exact ⟨[], [], rfl, (fun _ h => by cases h), fun _ h => by cases h⟩
  | cons k ks ih =>
    obtain ⟨hk, hs⟩ := List.pairwise_cons.1 h
    by_cases hx : Lt k x
    · obtain ⟨A, B, e, ha, hb⟩ := ih hs
      refine ⟨k :: A, B, by rw [e]; rfl, fun a h => ?_, hb⟩
      rcases List.mem_cons.1 h with rfl | h
      · exact hx
      · exact ha a h
    · refine ⟨[], k :: ks, rfl, (fun _ h => by cases h), fun b h hl => ?_⟩
      rcases List.mem_cons.1 h with rfl | h
      · exact hx hl
      · exact hx (lt_trans (hk b h) hl)
theorem place_at (A B : List ByteArray) (x : ByteArray) (ha : ∀ a ∈ A, Lt a x) (hb : ∀ b ∈ B, ¬ Lt b x) : placeOf (A ++ B) x = A.length := by
  unfold placeOf
  refine bs_spec _ _ _ (fun t ht => ?_) (fun t h1 h2 => ?_) _ _ _ (by omega) (Nat.zero_le _) (by simp) (Nat.le_refl _)
  · rw [List.getD_eq_getElem?_getD, List.getElem?_append_left ht, List.getElem?_eq_getElem ht]
    exact ha _ (List.getElem_mem ht)
  · rw [List.length_append] at h2
    rw [List.getD_eq_getElem?_getD, List.getElem?_append_right h1, List.getElem?_eq_getElem (by omega)]
    have := hb _ (List.getElem_mem (show t - A.length < B.length by omega))
    unfold Lt at this
    simpa using this
theorem has_at (A B : List ByteArray) (x : ByteArray) (ha : ∀ a ∈ A, Lt a x) (hb : ∀ b ∈ B, ¬ Lt b x) : hasIt (A ++ B) x = true ↔ B.head? = some x := by
  unfold hasIt
  rw [place_at A B x ha hb, decide_eq_true_eq, List.getD_eq_getElem?_getD, List.getElem?_append_right (Nat.le_refl _), Nat.sub_self]
  cases B with
  | nil => simp
  | cons b B => simp
theorem has_iff {ks : List ByteArray} (h : Sorted ks) (x : ByteArray) : hasIt ks x = true ↔ x ∈ ks := by
  obtain ⟨A, B, rfl, ha, hb⟩ := part ks x h
  rw [has_at A B x ha hb]
  constructor
  · intro e
    exact List.mem_append_right _ (List.mem_of_mem_head? e)
  · intro hm
    rcases List.mem_append.1 hm with hm | hm
    · exact absurd (ha x hm) (lt_irr x)
    · cases B with
      | nil => cases hm
      | cons b B =>
        rcases List.mem_cons.1 hm with rfl | hm
        · rfl
        · exact absurd ((List.pairwise_cons.1 (List.pairwise_append.1 h).2.1).1 x hm) (hb b List.mem_cons_self)
/-- A ring as it must be. -/
structure Fit (ks vs : List ByteArray) : Prop where
  so : Sorted ks
  len : vs.length = ks.length
theorem sorted_nodup {ks : List ByteArray} (h : Sorted ks) : ks.Nodup := List.Pairwise.imp (R := Lt) (S := (· ≠ ·)) (fun {a b} hl e => by subst e; exact lt_irr _ hl) h
theorem get_zip {ks vs : List ByteArray} (h : Fit ks vs) {x v : ByteArray} (hm : (x, v) ∈ ks.zip vs) : getV ks vs x = (v, true) := by
  have hx : x ∈ ks := (List.of_mem_zip hm).1
  have hi := (has_iff h.so x).2 hx
  unfold getV
  rw [if_pos hi]
  obtain ⟨A, B, rfl, ha, hb⟩ := part ks x h.so
  have hB := (has_at A B x ha hb).1 hi
  cases B with
  | nil => cases hB
  | cons b B =>
    obtain rfl : b = x := Option.some.inj hB
    rw [place_at A _ b ha hb]
    have hnA : b ∉ A := fun h => lt_irr b (ha b h)
    have hnB : b ∉ B := fun hh => lt_irr b ((List.pairwise_cons.1 (List.pairwise_append.1 h.so).2.1).1 b hh)
    obtain ⟨i, hi, e⟩ := List.getElem_of_mem hm
    have hl := h.len
    have hz : i < (A ++ b :: B).length ∧ i < vs.length := by rw [List.length_zip] at hi; omega
    rw [List.getElem_zip] at e
    injection e with e1 e2
    have hie : i = A.length := by
      rcases Nat.lt_trichotomy i A.length with hlt | he | hgt
      · rw [List.getElem_append_left hlt] at e1
        exact absurd (e1 ▸ List.getElem_mem hlt) hnA
      · exact he
      · rw [List.getElem_append_right (by omega), List.getElem_cons, dif_neg (by omega)] at e1
        exact absurd (e1 ▸ List.getElem_mem _) hnB
    subst hie
    rw [List.getD_eq_getElem?_getD, List.getElem?_eq_getElem hz.2]
    exact congrArg (·, true) e2
theorem zip_of {ks vs : List ByteArray} (hl : vs.length = ks.length) {x : ByteArray} (h : x ∈ ks) : ∃ v, (x, v) ∈ ks.zip vs := by
  obtain ⟨i, hi, e⟩ := List.getElem_of_mem h
  refine ⟨vs[i], ?_⟩
  rw [← e, ← List.getElem_zip (h := by rw [List.length_zip]; omega)]
  exact List.getElem_mem _
theorem get_some {ks vs : List ByteArray} (h : Fit ks vs) {x : ByteArray} (hg : (getV ks vs x).2 = true) : x ∈ ks := by
  unfold getV at hg
  split at hg
  · next hi => exact (has_iff h.so x).1 hi
  · cases hg
theorem put_sorted {ks : List ByteArray} (h : Sorted ks) (x : ByteArray) : Sorted (putK ks x) := by
  unfold putK
  split
  · exact h
  · next hn =>
    have hx : x ∉ ks := fun hm => hn ((has_iff h x).2 hm)
    obtain ⟨A, B, rfl, ha, hb⟩ := part ks x h
    rw [place_at A B x ha hb, List.take_left, List.drop_left]
    obtain ⟨h1, h2, h3⟩ := List.pairwise_append.1 h
    refine List.pairwise_append.2 ⟨h1, List.pairwise_cons.2 ⟨fun b hbm => ?_, h2⟩, fun a ham b hbm => ?_⟩
    · exact lt_or (fun e => hx (e ▸ List.mem_append_right _ hbm)) (hb b hbm)
    · rcases List.mem_cons.1 hbm with rfl | hbm
      · exact ha a ham
      · exact h3 a ham b hbm
theorem put_zip {ks vs : List ByteArray} (h : Fit ks vs) (x y : ByteArray) (hn : hasIt ks x = false) : Fit (putK ks x) (putV ks vs x y) ∧ (∀ q, q ∈ (putK ks x).zip (putV ks vs x y) ↔ q = (x, y) ∨ q ∈ ks.zip vs) ∧ (putK ks x).length = ks.length + 1 := by
  have hle := placeOf_le ks x
  have hl := h.len
  have hs := put_sorted h.so x
  unfold putK putV at *
  simp only [hn, Bool.false_eq_true, if_false] at hs ⊢
  generalize placeOf ks x = p at hle hs ⊢
  refine ⟨⟨hs, ?_⟩, fun q => ?_, ?_⟩
  · simp only [List.length_append, List.length_cons, List.length_take, List.length_drop]
    omega
  · rw [List.zip_append (by simp only [List.length_take]; omega), List.zip_cons_cons, List.mem_append, List.mem_cons]
    have e : ks.zip vs = (ks.take p).zip (vs.take p) ++ (ks.drop p).zip (vs.drop p) := by
      rw [← List.zip_append (by simp only [List.length_take]; omega), List.take_append_drop, List.take_append_drop]
    rw [e, List.mem_append]
    constructor
    · rintro (h | h | h)
      · exact Or.inr (Or.inl h)
      · exact Or.inl h
      · exact Or.inr (Or.inr h)
    · rintro (h | h | h)
      · exact Or.inr (Or.inl h)
      · exact Or.inl h
      · exact Or.inr (Or.inr h)
  · simp only [List.length_append, List.length_cons, List.length_take, List.length_drop]
    omega
theorem put_same {ks vs : List ByteArray} (h : Fit ks vs) (x y : ByteArray) (hg : getV ks vs x = (y, true)) : putK ks x = ks ∧ putV ks vs x y = vs ∧ (x, y) ∈ ks.zip vs := by
  have hi : hasIt ks x = true := by
    unfold getV at hg
    split at hg
    · next h => exact h
    · cases hg
  have hx := (has_iff h.so x).1 hi
  obtain ⟨v, hv⟩ := zip_of h.len hx
  have hvy := get_zip h hv
  rw [hg] at hvy
  injection hvy with e _
  subst e
  unfold getV at hg
  rw [if_pos hi] at hg
  injection hg with hg _
  refine ⟨by unfold putK; rw [if_pos hi], ?_, hv⟩
  unfold putV
  rw [if_pos hi]
  apply List.ext_getElem?
  intro i
  rw [List.getElem?_set]
  have hp : placeOf ks x < ks.length := by
    unfold hasIt at hi
    exact (of_decide_eq_true hi).1
  have hl := h.len
  split
  · next e =>
    subst e
    rw [if_pos (by omega), List.getElem?_eq_getElem (by omega), ← hg, List.getD_eq_getElem?_getD, List.getElem?_eq_getElem (by omega)]
    rfl
  · rfl
/-- What Add does to a ring. -/
theorem add_does {ks vs : List ByteArray} (h : Fit ks vs) (s key : ByteArray) : Fit (addR ks vs s key).2.1 (addR ks vs s key).2.2 ∧ (addR ks vs s key).2.1.length ≤ ks.length + 1
    ∧ ((addR ks vs s key).1 ≠ 0 → (addR ks vs s key).2 = (ks, vs)) ∧ ((addR ks vs s key).1 = 0 → Signer.signNo (bs s) = 0 ∧ ∀ q, q ∈ (addR ks vs s key).2.1.zip (addR ks vs s key).2.2 ↔ q = (s, key) ∨ q ∈ ks.zip vs) := by
  unfold addR
  split
  · next hs => exact ⟨h, Nat.le_succ _, fun _ => rfl, fun e => absurd e hs⟩
  · next hs =>
    have hs : Signer.signNo (bs s) = 0 := by simpa using hs
    split
    · exact ⟨h, Nat.le_succ _, fun _ => rfl, fun e => by cases e⟩
    · next hg =>
      by_cases hi : hasIt ks s = true
      · have hgv : getV ks vs s = (key, true) := by
          have h2 : (getV ks vs s).2 = true := by unfold getV; rw [if_pos hi]
          have h1 : (getV ks vs s).1 = key := Classical.byContradiction (fun hne => hg ⟨h2, hne⟩)
          exact Prod.ext h1 h2
        obtain ⟨e1, e2, e3⟩ := put_same h s key hgv
        simp only [e1, e2]
        refine ⟨h, Nat.le_succ _, fun e => absurd rfl e, fun _ => ⟨hs, fun q => ⟨Or.inr, ?_⟩⟩⟩
        rintro (rfl | hq)
        · exact e3
        · exact hq
      · have hi : hasIt ks s = false := by simpa using hi
        obtain ⟨f1, f2, f3⟩ := put_zip h s key hi
        exact ⟨f1, Nat.le_of_eq f3, fun e => absurd rfl e, fun _ => ⟨hs, f2⟩⟩
theorem contains_mem (xs : List ByteArray) (x : ByteArray) : Lib.containsS xs x = true ↔ x ∈ xs := by
  unfold Lib.containsS
  rw [decide_eq_true_eq]
  exact Lib.idxOfS_nonneg_iff xs x
theorem count_ind (ks vs : List ByteArray) (text : ByteArray) : ∀ (signs who : List ByteArray), who.Nodup → (signs.foldl (countS ks vs text) who).Nodup ∧ (∀ x, x ∈ signs.foldl (countS ks vs text) who ↔ x ∈ who ∨ ∃ s ∈ signs, splitB s = (x, 0) ∧ rightB ks vs x s text = true) ∧ (signs.foldl (countS ks vs text) who).length ≤ who.length + signs.length := by
  intro signs
  induction signs with
  | nil =>
    intro who h
    refine ⟨h, fun x => ⟨Or.inl, ?_⟩, Nat.le_refl _⟩
    rintro (h | ⟨s, hs, _⟩)
    · exact h
    · cases hs
  | cons s signs ih =>
    intro who h
    rw [List.foldl_cons]
    have key : (countS ks vs text who s).Nodup ∧ (∀ x, x ∈ countS ks vs text who s ↔ x ∈ who ∨ (splitB s = (x, 0) ∧ rightB ks vs x s text = true)) ∧ (countS ks vs text who s).length ≤ who.length + 1 := by
      unfold countS
      split
      · next h1 =>
        split
        · next h2 =>
          split
          · next h3 =>
            refine ⟨h, fun x => ⟨Or.inl, ?_⟩, Nat.le_succ _⟩
            rintro (hx | ⟨e, _⟩)
            · exact hx
            · rw [e] at h3
              exact (contains_mem _ _).1 h3
          · next h3 =>
            refine ⟨?_, fun x => ?_, by simp⟩
            · refine List.nodup_append.2 ⟨h, by simp, fun a ha b hb e => ?_⟩
              rw [List.mem_singleton] at hb
              subst hb
              subst e
              exact h3 ((contains_mem _ _).2 ha)
            · rw [List.mem_append, List.mem_singleton]
              refine or_congr Iff.rfl ⟨?_, ?_⟩
              · rintro rfl
                exact ⟨Prod.ext rfl h1, h2⟩
              · rintro ⟨e, _⟩
                rw [e]
        · next h2 =>
          refine ⟨h, fun x => ⟨Or.inl, ?_⟩, Nat.le_succ _⟩
          rintro (hx | ⟨e, hr⟩)
          · exact hx
          · rw [e] at h2
            exact absurd hr h2
      · next h1 =>
        refine ⟨h, fun x => ⟨Or.inl, ?_⟩, Nat.le_succ _⟩
        rintro (hx | ⟨e, hr⟩)
        · exact hx
        · rw [e] at h1
          exact absurd rfl h1
    obtain ⟨k1, k2, k3⟩ := key
    obtain ⟨i1, i2, i3⟩ := ih _ k1
    refine ⟨i1, fun x => ?_, by rw [List.length_cons]; omega⟩
    rw [i2, k2]
    constructor
    · rintro ((h | h) | ⟨t, ht, h⟩)
      · exact Or.inl h
      · exact Or.inr ⟨s, List.mem_cons_self, h⟩
      · exact Or.inr ⟨t, List.mem_cons_of_mem _ ht, h⟩
    · rintro (h | ⟨t, ht, h⟩)
      · exact Or.inl (Or.inl h)
      · rcases List.mem_cons.1 ht with rfl | ht
        · exact Or.inl (Or.inr h)
        · exact Or.inr ⟨t, ht, h⟩
theorem count_nodup (ks vs : List ByteArray) (text : ByteArray) (signs : List ByteArray) : (countL ks vs text signs).Nodup := (count_ind ks vs text signs [] List.nodup_nil).1
theorem count_mem (ks vs : List ByteArray) (text : ByteArray) (signs : List ByteArray) (x : ByteArray) : x ∈ countL ks vs text signs ↔ ∃ s ∈ signs, splitB s = (x, 0) ∧ rightB ks vs x s text = true := by
  refine ((count_ind ks vs text signs [] List.nodup_nil).2.1 x).trans ⟨?_, Or.inr⟩
  rintro (h | h)
  · cases h
  · exact h
theorem count_le (ks vs : List ByteArray) (text : ByteArray) (signs : List ByteArray) : (countL ks vs text signs).length ≤ signs.length := by
  have := (count_ind ks vs text signs [] List.nodup_nil).2.2
  rw [List.length_nil, Nat.zero_add] at this
  exact this
theorem len_sub {α : Type} [DecidableEq α] : ∀ (a b : List α), a.Nodup → (∀ x ∈ a, x ∈ b) → a.length ≤ b.length
  | [], _, _, _ => Nat.zero_le _
  | x :: a, b, h, hs => by
    obtain ⟨hx, ha⟩ := List.nodup_cons.1 h
    have hb := hs x List.mem_cons_self
    have := len_sub a (b.erase x) ha (fun y hy => (List.mem_erase_of_ne (fun e => hx (by rw [← e]; exact hy))).2 (hs y (List.mem_cons_of_mem _ hy)))
    rw [List.length_erase_of_mem hb] at this
    have h0 := List.length_pos_of_mem hb
    rw [List.length_cons]
    omega
theorem count_sub (ks vs : List ByteArray) (text : ByteArray) (a b : List ByteArray) (h : ∀ x ∈ a, x ∈ b) : (countL ks vs text a).length ≤ (countL ks vs text b).length := by
  refine len_sub _ _ (count_nodup _ _ _ _) (fun x hx => ?_)
  obtain ⟨s, hs, hr⟩ := (count_mem _ _ _ _ _).1 hx
  exact (count_mem _ _ _ _ _).2 ⟨s, h s hs, hr⟩
/-- Every key of the ring has signed. -/
structure Signed (ks vs : List ByteArray) (text : ByteArray) (all : List ByteArray) : Prop where
  fit : Fit ks vs
  by_ : ∀ x v, (x, v) ∈ ks.zip vs → Signer.signNo (bs x) = 0 ∧ signB x v text ∈ all ∧ v.size ≤ 1048576
theorem signed_nil (text : ByteArray) (all : List ByteArray) : Signed [] [] text all := ⟨⟨List.Pairwise.nil, rfl⟩, fun _ _ h => by cases h⟩
theorem zip_of2 {ks vs : List ByteArray} (hl : vs.length = ks.length) {v : ByteArray} (h : v ∈ vs) : ∃ x, (x, v) ∈ ks.zip vs := by
  obtain ⟨i, hi, e⟩ := List.getElem_of_mem h
  refine ⟨ks[i], ?_⟩
  rw [← e, ← List.getElem_zip (h := by rw [List.length_zip]; omega)]
  exact List.getElem_mem _
theorem Signed.small {ks vs : List ByteArray} {text : ByteArray} {all : List ByteArray} (h : Signed ks vs text all) : ∀ v ∈ vs, v.size ≤ 1048576 := fun v hv => by
  obtain ⟨x, hx⟩ := zip_of2 h.fit.len hv
  exact (h.by_ x v hx).2.2
theorem Signed.add {ks vs : List ByteArray} {text : ByteArray} {all : List ByteArray} (h : Signed ks vs text all) (s key : ByteArray) (hk : key.size ≤ 1048576) (hc : (addR ks vs s key).1 = 0) : Signed (addR ks vs s key).2.1 (addR ks vs s key).2.2 text (all ++ [signB s key text]) ∧ Signer.signNo (bs s) = 0 := by
  obtain ⟨h1, _, _, h2⟩ := add_does h.fit s key
  obtain ⟨h3, h4⟩ := h2 hc
  refine ⟨⟨h1, fun x v hm => ?_⟩, h3⟩
  rcases (h4 _).1 hm with e | hm
  · injection e with e1 e2
    subst e1 e2
    exact ⟨h3, List.mem_append_right _ List.mem_cons_self, hk⟩
  · exact ⟨(h.by_ x v hm).1, List.mem_append_left _ (h.by_ x v hm).2.1, (h.by_ x v hm).2.2⟩
theorem Signed.not {ks vs : List ByteArray} {text : ByteArray} {all : List ByteArray} (h : Signed ks vs text all) (s key : ByteArray) (hc : (addR ks vs s key).1 ≠ 0) : Signed (addR ks vs s key).2.1 (addR ks vs s key).2.2 text all := by
  have := (add_does h.fit s key).2.2.1 hc
  rw [this]
  exact h
/-- All of the ring's signers count. -/
theorem Signed.count {ks vs : List ByteArray} {text : ByteArray} {all : List ByteArray} (h : Signed ks vs text all) : (countL ks vs text all).length = ks.length := by
  refine Nat.le_antisymm (len_sub _ _ (count_nodup _ _ _ _) (fun x hx => ?_)) (len_sub _ _ (sorted_nodup h.fit.so) (fun x hx => ?_))
  · obtain ⟨s, hs, _, hr⟩ := (count_mem _ _ _ _ _).1 hx
    refine get_some h.fit (vs := vs) ?_
    unfold rightB at hr
    simp only [Bool.and_eq_true] at hr
    exact hr.1
  · obtain ⟨v, hv⟩ := zip_of h.fit.len hx
    obtain ⟨h1, h2, _⟩ := h.by_ x v hv
    refine (count_mem _ _ _ _ _).2 ⟨_, h2, split_sign _ _ _ h1, ?_⟩
    unfold rightB
    rw [get_zip h.fit hv, decide_eq_true h1]
    simp
/-- The texts turned round, each beside the first. -/
def turn (all : List ByteArray) : Nat → List ByteArray
  | 0 => []
  | i + 1 => turn all i ++ [all.getD (all.length - 1 - i) ⟨#[]⟩, all.getD 0 ⟨#[]⟩]
theorem turn_length (all : List ByteArray) : ∀ i, (turn all i).length = 2 * i
  | 0 => rfl
  | i + 1 => by rw [turn, List.length_append, turn_length all i]; simp; omega
theorem turn_sub (all : List ByteArray) : ∀ i, i ≤ all.length → ∀ x ∈ turn all i, x ∈ all
  | 0, _, x, h => by cases h
  | i + 1, hi, x, h => by
    rw [turn, List.mem_append] at h
    rcases h with h | h
    · exact turn_sub all i (by omega) x h
    · simp only [List.mem_cons, List.not_mem_nil, or_false] at h
      rcases h with rfl | rfl
      · rw [List.getD_eq_getElem?_getD, List.getElem?_eq_getElem (by omega)]
        exact List.getElem_mem _
      · rw [List.getD_eq_getElem?_getD, List.getElem?_eq_getElem (by omega)]
        exact List.getElem_mem _
theorem turn_has (all : List ByteArray) : ∀ i k, k < i → all.getD (all.length - 1 - k) ⟨#[]⟩ ∈ turn all i
  | 0, k, h => by omega
  | i + 1, k, h => by
    rw [turn]
    by_cases e : k = i
    · subst e
      exact List.mem_append_right _ List.mem_cons_self
    · exact List.mem_append_left _ (turn_has all i k (by omega))
theorem turn_all (all : List ByteArray) (x : ByteArray) (h : x ∈ all) : x ∈ turn all all.length := by
  obtain ⟨i, hi, rfl⟩ := List.getElem_of_mem h
  have := turn_has all all.length (all.length - 1 - i) (by omega)
  rw [show all.length - 1 - (all.length - 1 - i) = i by omega, List.getD_eq_getElem?_getD, List.getElem?_eq_getElem hi] at this
  exact this
theorem turn_count (ks vs : List ByteArray) (text : ByteArray) (all : List ByteArray) : (countL ks vs text (turn all all.length)).length = (countL ks vs text all).length :=
  Nat.le_antisymm (count_sub _ _ _ _ _ (turn_sub all _ (Nat.le_refl _))) (count_sub _ _ _ _ _ (turn_all all))
end Go.Proofs.YtdjhhljijpadoaaDoor.Table
/- A ring and a row of texts beside it; Keys, Signers. -/
namespace Go.Proofs.YtdjhhljijpadoaaDoor.Table
open Go.Shelf Go.Proofs.YtdjhhljijpadoaaDoor.Tail Go.Proofs.YtdjhhljijpadoaaDoor.Lay2 Go.Proofs.YtdjhhljijpadoaaDoor.Sha Go.RowKit Go.Proofs.YtdjhhljijpadoaaDoor.Q Go.Proofs.YtdjhhljijpadoaaDoorW.PrintWords Go.Proofs.YtdjhhljijpadoaaDoorW.PrintLast Go.Proofs.YtdjhhljijpadoaaDoorW.PrintMore Go.Proofs.YtdjhhljijpadoaaDoor.Bytes
set_option linter.unusedVariables false
set_option linter.unusedSimpArgs false
theorem addr_zero (a : Addr) : a.add 0 = a := by
  cases a
  unfold Addr.add
  split <;> simp_all
structure St (w W : World) (r p : Nat) (vk vv va : Value) (ks vs all : List ByteArray) : Prop where
  ring : Rg W r p vk vv ks vs
  row : Kd.R Kd.string 9 W w.heap.size (fun _ => True) va all
  below : Below w.heap.size w W
  own : ∀ g, Rw r p vk vv g → w.heap.size ≤ g
  apart : ∀ g, Of va g → ¬ Rw r p vk vv g
theorem St.less {w W W' : World} {r p : Nat} {vk vv va : Value} {ks vs all : List ByteArray} (h : St w W r p vk vv va ks vs all) (hb : Below W.heap.size W W') : St w W' r p vk vv va ks vs all :=
  ⟨h.ring.below hb, r_below h.row hb, h.below.trans (hb.mono h.below.size), h.own, h.apart⟩
theorem own_of {W : World} {base : Nat} {v : Value} {xs : List ByteArray} (h : Kd.R Kd.string 9 W base (fun _ => True) v xs) {g : Nat} (hg : v.ownBlock = some g) : Of v g := by
  rcases SQ.of_R h with ⟨rfl, _⟩ | ⟨g', cap, rfl, _⟩
  · cases hg
  · have : g' = g := by simpa [Value.ownBlock] using hg
    subst this
    exact ⟨_, _, rfl⟩
theorem of_own {v : Value} {g : Nat} (h : Of v g) : v.ownBlock = some g := by
  obtain ⟨n, c, rfl⟩ := h
  rfl
theorem rebase {W : World} {b b' : Nat} {v : Value} {xs : List ByteArray} (h : Kd.R Kd.string 9 W b (fun _ => True) v xs) (hb : b' ≤ b) : Kd.R Kd.string 9 W b' (fun _ => True) v xs := by
  rcases SQ.of_R h with ⟨rfl, rfl⟩ | ⟨g, cap, rfl, hq, hg, _⟩
  · exact nil_R
  · exact hq.toR (Nat.le_trans hb hg)
theorem rw_lt {W : World} {r p : Nat} {vk vv : Value} {ks vs : List ByteArray} (h : Rg W r p vk vv ks vs) {g : Nat} (hg : Rw r p vk vv g) : g < W.heap.size := by
  rcases hg with rfl | rfl | hg | hg
  · exact (Array.getElem?_eq_some_iff.1 h.lies).1
  · exact (Array.getElem?_eq_some_iff.1 h.tb.lies).1
  · exact h.tb.rk.lt g hg
  · exact h.tb.rv.lt g hg
theorem St.app {w W w1 : World} {r p : Nat} {vk vv va v1 : Value} {ks vs all all' : List ByteArray} (h : St w W r p vk vv va ks vs all) (ho : Kd.R Kd.string 9 w1 w.heap.size (fun _ => True) v1 all') (hb : Below w.heap.size w w1)
    (hg : W.grownBy w1 va.ownBlock) (hat : v1.ownBlock = va.ownBlock ∨ ∃ b, v1.ownBlock = some b ∧ W.heap.size ≤ b) : St w w1 r p vk vv v1 ks vs all' := by
  refine ⟨h.ring.fr (S := fun g => va.ownBlock = some g) ⟨hg.os, hg.tape, hg.output, hg.size, fun k hk hn => hg.block k hk (fun e => hn e.symm)⟩ (fun g hs => h.apart g (own_of h.row hs)), ho, hb, h.own, fun g hv hr => ?_⟩
  rcases hat with e | ⟨b, e, hbb⟩
  · exact h.apart g (own_of h.row (e ▸ of_own hv)) hr
  · have := of_own hv
    rw [e] at this
    injection this with this
    have := rw_lt h.ring hr
    omega
theorem St.add {w W w1 : World} {r p : Nat} {vk vv vk' vv' va : Value} {ks vs ks' vs' all : List ByteArray} (h : St w W r p vk vv va ks vs all) (hr : Rg w1 r p vk' vv' ks' vs') (hf : Fr (Ow p vk vv) W w1)
    (hk : ∀ g, Of vk' g → Of vk g ∨ W.heap.size ≤ g) (hv : ∀ g, Of vv' g → Of vv g ∨ W.heap.size ≤ g) : St w w1 r p vk' vv' va ks' vs' all := by
  have hlt : ∀ g, Of va g → g < W.heap.size := (row_of_R h.row).lt
  have old : ∀ g, Rw r p vk' vv' g → Rw r p vk vv g ∨ W.heap.size ≤ g := by
    rintro g (e | e | e | e)
    · exact Or.inl (Or.inl e)
    · exact Or.inl (Or.inr (Or.inl e))
    · exact (hk g e).imp (fun e => Or.inr (Or.inr (Or.inl e))) id
    · exact (hv g e).imp (fun e => Or.inr (Or.inr (Or.inr e))) id
  refine ⟨hr, ?_, below_fr h.below hf (fun g hg => h.own g (Or.inr hg)) h.below.size, fun g hg => ?_, fun g hg hh => ?_⟩
  · rcases SQ.of_R h.row with ⟨rfl, rfl⟩ | ⟨g, cap, rfl, hq, hgb, _⟩
    · exact nil_R
    · exact (hq.kept (hf.block g hq.lt (fun ho => h.apart g ⟨_, _, rfl⟩ (Or.inr ho)))).toR hgb
  · rcases old g hg with e | e
    · exact h.own g e
    · exact Nat.le_trans h.below.size e
  · rcases old g hh with e | e
    · exact h.apart g hg e
    · have := hlt g hg
      omega
theorem st_start {w w2 w3 : World} {n c : Nat} (hr2 : Rg w2 (w.heap.size + 1) w.heap.size (.slice none 0 0) (.slice none 0 0) [] []) (hr : Rg w3 (w.heap.size + 1) w.heap.size (.slice none 0 0) (.slice none 0 0) [] [])
    (h3 : Kd.R Kd.string 9 w3 w.heap.size (fun _ => True) (.slice (some ⟨w2.heap.size, 0, none⟩) n c) []) (hb : Below w.heap.size w w3) : St w w3 (w.heap.size + 1) w.heap.size (.slice none 0 0) (.slice none 0 0) (.slice (some ⟨w2.heap.size, 0, none⟩) n c) [] [] [] := by
  refine ⟨hr, h3, hb, ?_, fun g hg hh => ?_⟩
  · rintro g (e | e | ⟨n, c, e⟩ | ⟨n, c, e⟩)
    · omega
    · omega
    · cases e
    · cases e
  · have := rw_lt hr2 hh
    have e := of_own hg
    have e2 : w2.heap.size = g := by simpa [Value.ownBlock] using e
    omega
theorem reads_of {W : World} {base : Nat} {v : Value} {xs : List ByteArray} (h : Kd.R Kd.string 9 W base (fun _ => True) v xs) : ∃ A c, v = .slice A xs.length c ∧ Kd.C Kd.string W A xs.length xs ∧ xs.length ≤ c := by
  rcases SQ.of_R h with ⟨rfl, rfl⟩ | ⟨g, cap, rfl, hq, _, _⟩
  · exact ⟨none, 0, rfl, nil_C, Nat.le_refl _⟩
  · exact ⟨_, _, rfl, hq.all, hq.len⟩
/-- A cell of a block that is none of the table's. -/
theorem fr_cell {S : Nat → Prop} {w W : World} (h : Fr S w W) {b : Nat} (hb : b < w.heap.size) (hS : ¬ S b) (o : Nat) : W.cell? ⟨b, o, none⟩ = w.cell? ⟨b, o, none⟩ := by
  unfold World.cell?
  rw [h.block b hb hS]
theorem clone_calls (W : World) (v : Value) (xs : List ByteArray) (h : Row W v xs) (hl : xs.length * 16 ≤ 140737488355328) : Calls Tryd.prog 41 #[v] W fun e w' => ∃ b c, e = .returned (.slice b xs.length c) ∧ Below W.heap.size W w' := by
  rcases h with ⟨rfl, rfl⟩ | ⟨g, cap, rfl, hq⟩
  · refine (Tryd.slices_Clone_string_nil 0 0 W).mono ?_
    rintro e w' ⟨rfl, rfl⟩
    exact ⟨none, 0, rfl, Below.refl _ _⟩
  · refine (Tryd.slices_Clone_string g 0 xs.length cap xs W (Nat.le_refl _) hl (fun j hj => by rw [Nat.zero_add]; exact hq.cell j _ (by rw [List.getD_eq_getElem?_getD, List.getElem?_eq_getElem hj]; rfl))).mono ?_
    rintro e w' ⟨v', rfl, ho, _, hb⟩
    rcases ho.2 with ⟨rfl, e0⟩ | ⟨g, cap, cur, rfl, _⟩
    · exact ⟨none, 0, by rw [e0], hb⟩
    · exact ⟨_, _, rfl, hb⟩
set_option maxRecDepth 100000 in
set_option maxHeartbeats 4000000 in
theorem keys_calls (w : World) (p : Nat) (vk vv : Value) (ks vs : List ByteArray) (h : Tb w p vk vv ks vs) (hl : ks.length * 16 ≤ 140737488355328) :
    Calls Tryd.prog 30 #[.pointer (some ⟨p, 0, none⟩)] w fun e w' => ∃ b c, e = .returned (.slice b ks.length c) ∧ Below w.heap.size w w' := by
  have c0 : w.cell? ⟨p, 0, none⟩ = some vk := by simp [World.cell?, h.lies]
  have CC := Aside0.mk (clone_calls w vk ks h.rk hl)
  clear h
  go_enter Tryd.func30, Tryd.ntmps30
  go_wp2_with (first
    | (go_at_call 41; ((with_reducible refine CC.out.mono ?_)); rintro e w2 ⟨b, c, rfl, hb⟩; have HB2 := Aside0.mk hb; clear hb))
  go_ret
  exact ⟨_, _, rfl, HB2.out⟩
set_option maxRecDepth 100000 in
set_option maxHeartbeats 4000000 in
theorem signers_calls (w : World) (r p : Nat) (vk vv : Value) (ks vs : List ByteArray) (h : Rg w r p vk vv ks vs) (hl : ks.length * 16 ≤ 140737488355328) :
    Calls Tryd.prog 15 #[.pointer (some ⟨r, 0, none⟩)] w fun e w' => ∃ b c, e = .returned (.slice b ks.length c) ∧ Below w.heap.size w w' := by
  have c0 : w.cell? ⟨r, 0, none⟩ = some (.pointer (some ⟨p, 0, none⟩)) := by simp [World.cell?, h.lies]
  have CC := Aside0.mk (keys_calls w p vk vv ks vs h.tb hl)
  clear h
  go_enter Tryd.func15, Tryd.ntmps15
  go_wp2_with (first
    | (go_at_call 30; ((with_reducible refine CC.out.mono ?_)); rintro e w2 ⟨b, c, rfl, hb⟩; have HB2 := Aside0.mk hb; clear hb))
  go_ret
  exact ⟨_, _, rfl, HB2.out⟩
end Go.Proofs.YtdjhhljijpadoaaDoor.Table
/- The law SealTurns. -/
namespace Go.Proofs.YtdjhhljijpadoaaDoor.Table
open Go.Shelf Go.Proofs.YtdjhhljijpadoaaDoor.OrdersBut Go.Proofs.YtdjhhljijpadoaaDoor.Tail Go.Proofs.YtdjhhljijpadoaaDoor.Lay2 Go.Proofs.YtdjhhljijpadoaaDoor.Sha Go.RowKit Go.Proofs.YtdjhhljijpadoaaDoor.Q Go.Proofs.YtdjhhljijpadoaaDoorW.PrintWords Go.Proofs.YtdjhhljijpadoaaDoorW.PrintLast Go.Proofs.YtdjhhljijpadoaaDoorW.PrintMore Go.Proofs.YtdjhhljijpadoaaDoor.Bytes
set_option linter.unusedVariables false
set_option linter.unusedSimpArgs false
set_option maxRecDepth 100000 in
set_option maxHeartbeats 8000000 in
theorem turns_true (w : World) (hG : Glob w) (A0 : Option Addr) (c0 : Nat) (xs0 : List S41) (x1 : ByteArray) (A2 : Option Addr) (c2 : Nat) (xs2 : List ByteArray) (hC0 : Kd.C k41 w A0 xs0.length xs0) (hc0 : xs0.length ≤ c0) (hC2 : Kd.C Kd.string w A2 xs2.length xs2) (hc2 : xs2.length ≤ c2)
    (hn0 : xs0.length ≤ 1048576) (hz0 : ∀ s ∈ xs0, s.f0.size ≤ 1048576 ∧ s.f1.size ≤ 1048576) (hz1 : x1.size ≤ 1048576) (hn2 : xs2.length ≤ 1048576) (hz2 : ∀ s ∈ xs2, s.size ≤ 1048576) :
    Calls Tryd.prog 5 #[.slice A0 xs0.length c0, .string x1, .slice A2 xs2.length c2] w fun e w' => e = .returned (.bool true) ∧ Below w.heap.size w w' := by
  have HG := Aside0.mk hG
  have H0 := Aside0.mk hC0
  have H2 := Aside0.mk hC2
  have HN0 := Aside0.mk hn0
  have HN2 := Aside0.mk hn2
  have HZ0 := Aside0.mk hz0
  have HZ1 := Aside0.mk hz1
  have HZ2 := Aside0.mk hz2
  have HC2 := Aside0.mk hc2
  have CN := Aside0.mk (newRing_calls w)
  clear hG hC0 hC2 hn2 hz0 hz1 hz2 hc2
  go_enter Tryd.func5, Tryd.ntmps5
  go_wp2_with (first
    | (go_at_call 12; ((with_reducible refine CN.out.mono ?_)); rintro e w1 ⟨rfl, hr, hb⟩; have HR1 := Aside0.mk hr; have HB1 := Aside0.mk hb; clear hr hb)
    | (go_at_call 6; ((with_reducible refine (awake_calls w1 (HG.out.below HB1.out HG.out.lt)).mono ?_)); rintro e w2 ⟨rfl, hb⟩; have HB2 := Aside0.mk (HB1.out.trans (hb.mono HB1.out.size)); have HR2 := Aside0.mk (HR1.out.below hb); clear hb)
    | ((with_reducible refine gate_builtin (b := .append) (xs := #[.tmp 25, .tmp 26]) rfl ?_); at_builtin; generalize hW3 : World.alloc w2 (.cells #[] 9) = w3; have hb3 := below_alloc1 hW3; have hr3 := rebase (empty_R hW3) HB2.out.size; have HB3 := Aside0.mk (HB2.out.trans (hb3.mono HB2.out.size)); have HR3 := Aside0.mk (HR2.out.below hb3); refine Kd.R_append_row Value.string (⟨#[]⟩ : ByteArray) (w0 := w) w.heap.size rfl (.tmp 25) (.tmp 26) 37 9 (.string ⟨#[]⟩) 16 rfl Tryd.underlying37 rfl rfl (by decide) (.slice (some ⟨w2.heap.size, 0, none⟩) 0 0) [] xs2 A2 xs2.length c2 (fun _ => True) rfl rfl (fun _ _ => trivial) hr3 (Kd.C_below H2.out HB3.out) HB3.out HB3.out.size (by have := HN2.out; simp only [List.length_nil]; omega) ?_; intro v1 w4 ho hb hg hat; obtain ⟨b8, n8, c8, rfl⟩ := row_slice (row_of_R ho); have HS4 := Aside0.mk ((st_start HR2.out HR3.out hr3 HB3.out).app (all' := xs2) ho hb hg hat); clear ho hb hg hat hb3 hr3 hW3))
  go_loopg [8, 30] xs0.length (fun g v8 v30 wx => ∃ (i : Nat) (vk vv : Value) (ks vs all : List ByteArray) (b : Option Addr) (n c : Nat), i + g = xs0.length ∧ v30 = .int .i64 (i : Int) ∧ v8 = .slice b n c ∧ Aside0 (St w wx (w.heap.size + 1) w.heap.size vk vv (.slice b n c) ks vs all) ∧ Aside0 (Signed ks vs x1 all) ∧ Aside0 (∀ s ∈ xs2, s ∈ all) ∧ Aside0 (ks.length ≤ i ∧ all.length ≤ xs2.length + i) ∧ Aside0 (∀ s ∈ all, s.size ≤ 2097152))
  case atStart => exact ⟨0, _, _, [], [], xs2, _, _, _, by omega, rfl, rfl, HS4, ⟨signed_nil x1 xs2⟩, ⟨fun s hs => hs⟩, ⟨Nat.zero_le _, Nat.le_refl _⟩, ⟨fun s hs => Nat.le_trans (HZ2.out s hs) (by decide)⟩⟩
  case round =>
    obtain ⟨i, vk, vv, ks, vs, all, b8, n8, c8, hig, rfl, rfl, HS, HI, HSUB, HL, HZA⟩ := hrel
    cases gk with
    | succ g =>
      have hi : i < xs0.length := by omega
      have p1 : 0 ≤ (i : Int) := by omega
      have p2 : (i : Int) < (xs0.length : Int) := by omega
      obtain ⟨ad, rfl, hx0, hx1⟩ := at_T41 H0.out (i : Int) p1 p2
      have ex : rd_T41 xs0 (i : Int) = xs0[i] := by
        unfold rd_T41
        rw [Int.toNat_natCast, List.getD_eq_getElem?_getD, List.getElem?_eq_getElem hi]
        rfl
      rw [Int.toNat_natCast, ex] at hx0 hx1
      have hzz := HZ0.out xs0[i] (List.getElem_mem hi)
      obtain ⟨⟨s, key⟩, hx⟩ : ∃ x, xs0[i] = x := ⟨_, rfl⟩
      rw [hx] at hx0 hx1 hzz
      clear ex hx
      replace hx0 := cell_below HS.out.below hx0
      replace hx1 := cell_below HS.out.below hx1
      simp only at hx0 hx1 hzz
      have HZZ := Aside0.mk hzz
      have HSA := Aside0.mk (HS.out.less (below_alloc (Below.refl _ wr) (.cells #[.string s, .string key] 41)))
      have HCE := Aside0.mk (fun (W : World) (hf : Fr (Ow w.heap.size vk vv) (wr.alloc (.cells #[.string s, .string key] 41)) W) => (show W.cell? ⟨wr.heap.size, 0, none⟩ = some (.string s) ∧ W.cell? ⟨wr.heap.size, 1, none⟩ = some (.string key) from by
        have hno : ¬ Ow w.heap.size vk vv wr.heap.size := fun h => Nat.lt_irrefl _ (rw_lt HS.out.ring (Or.inr h))
        have hlt : wr.heap.size < (wr.alloc (.cells #[.string s, .string key] 41)).heap.size := by simp
        exact ⟨(fr_cell hf hlt hno 0).trans (by unfold World.cell?; rw [heap_alloc_new]; rfl), (fr_cell hf hlt hno 1).trans (by unfold World.cell?; rw [heap_alloc_new]; rfl)⟩))
      have CA := Aside0.mk (fun (W : World) (h : St w W (w.heap.size + 1) w.heap.size vk vv (.slice b8 n8 c8) ks vs all) => add_calls W _ _ _ _ _ _ s key h.ring HI.out.fit.len (by have := HL.out; have := HN0.out; omega) (by have := HZZ.out; omega))
      have hsad := HI.out.add s key HZZ.out.2
      have hsnot := HI.out.not s key
      have hkl := (add_does HI.out.fit s key).2.1
      obtain ⟨R, hR⟩ : ∃ R, addR ks vs s key = R := ⟨_, rfl⟩
      rw [hR] at hsad hsnot hkl
      simp only [hR] at CA
      obtain ⟨rc, ks', vs'⟩ := R
      simp only at hsad hsnot hkl CA
      have HKL := Aside0.mk hkl
      clear hR hkl hzz
      by_cases h0 : rc = 0
      · subst h0
        obtain ⟨hs1, hs2⟩ := hsad rfl
        have HI2 := Aside0.mk hs1
        have CS := Aside0.mk (fun (W : World) (hb : Below w.heap.size w W) => sign_good s key x1 W (HG.out.below hb HG.out.lt) hs2 (by have := HZZ.out.2; omega) (by have := HZ1.out; omega))
        have HSS := Aside0.mk (signB_size s key x1)
        obtain ⟨S, hS⟩ : ∃ S, signB s key x1 = S := ⟨_, rfl⟩
        rw [hS] at HI2 HSS
        simp only [hS] at CS
        clear hsad hsnot hs1 hs2 hS
        go_wp2_with (first
          | (go_at_call 13; ((with_reducible refine (CA.out _ HSA.out).mono ?_)); rintro e w6 ⟨vk', vv', rfl, hr, hf, hk, hv⟩; obtain ⟨d1, d2⟩ := HCE.out w6 hf; have HS6 := Aside0.mk (HSA.out.add hr hf hk hv); clear hr hf hk hv)
          | (go_at_call 7; ((with_reducible refine (CS.out w6 HS6.out.below).mono ?_)); rintro e w7 ⟨rfl, hb⟩; have HS7 := Aside0.mk (HS6.out.less hb); clear hb)
          | ((with_reducible refine gate_builtin (b := .append) (xs := #[.tmp 52, .tmp 54]) rfl ?_); at_builtin; generalize hW8 : World.alloc w7 (.cells #[.string S] 9) = w8; have hb8 := below_alloc1 hW8; have hq8 : SQ w8 w7.heap.size 1 [S] := (by rw [← hW8]; exact ⟨⟨_, World.alloc_heap_new w7 _, rfl, rfl⟩, Nat.le_refl _, by decide⟩); have HS8 := Aside0.mk (HS7.out.less hb8); refine Kd.R_append_row Value.string (⟨#[]⟩ : ByteArray) (w0 := w) w.heap.size rfl (.tmp 52) (.tmp 54) 37 9 (.string ⟨#[]⟩) 16 rfl Tryd.underlying37 rfl rfl (by decide) (.slice b8 n8 c8) all [S] _ 1 1 (fun _ => True) rfl rfl (fun _ _ => trivial) HS8.out.row hq8.all HS8.out.below HS8.out.below.size (by have := HL.out; have := HN0.out; have := HN2.out; omega) ?_; intro v1 w9 ho hb hg hat; obtain ⟨b9, n9, c9, rfl⟩ := row_slice (row_of_R ho); have HS9 := Aside0.mk (HS8.out.app (all' := all ++ [S]) ho hb hg hat); clear ho hb hg hat hq8 hb8 hW8))
        go_roundg g
        case measure => omega
        case rel => exact ⟨i + 1, _, _, ks', vs', all ++ [S], _, _, _, by omega, by go_num, rfl, HS9, HI2, ⟨fun x hx => List.mem_append_left _ (HSUB.out x hx)⟩, ⟨by have := HL.out; have := HKL.out; omega, by have := HL.out; rw [List.length_append, List.length_singleton]; omega⟩, ⟨fun x hx => (List.mem_append.1 hx).elim (HZA.out x) (fun hx => by rw [List.mem_singleton] at hx; subst hx; have := HSS.out; have := HZZ.out.1; omega)⟩⟩
      · have HI2 := Aside0.mk (hsnot h0)
        have d1 : decide (rc = 0) = false := decide_eq_false h0
        have d2 : (rc == 0) = false := by simpa using h0
        clear hsad hsnot h0
        go_wp2_with (first
          | (go_at_call 13; ((with_reducible refine (CA.out _ HSA.out).mono ?_)); rintro e w6 ⟨vk', vv', rfl, hr, hf, hk, hv⟩; have HS6 := Aside0.mk (HSA.out.add hr hf hk hv); clear hr hf hk hv))
        go_roundg g
        case measure => omega
        case rel => exact ⟨i + 1, _, _, ks', vs', all, _, _, _, by omega, by go_num, rfl, HS6, HI2, HSUB, ⟨by have := HL.out; have := HKL.out; omega, by have := HL.out; omega⟩, HZA⟩
    | zero =>
      obtain rfl : i = xs0.length := by omega
      obtain ⟨A8, c8', e8, hCA, hcA⟩ := reads_of HS.out.row
      injection e8 with e81 e82 e83
      subst e81 e82 e83
      have HSL := Aside0.mk (show (ks.length + 1) * 16 ≤ 140737488355328 by have := HL.out; have := HN0.out; omega)
      have hlA : all.length ≤ 2097152 := by have := HL.out; have := HN0.out; have := HN2.out; omega
      have HLA := Aside0.mk hlA
      have CC := Aside0.mk (fun (W : World) (h : St w W (w.heap.size + 1) w.heap.size vk vv (.slice b8 all.length c8) ks vs all) (A : Option Addr) (c : Nat) (signs : List ByteArray) (hC : Kd.C Kd.string W A signs.length signs) (hc : signs.length ≤ c) (hz : ∀ s ∈ signs, s.size ≤ 140737488351232) (hsl : signs.length * 16 ≤ 140737488355328) =>
        ringCount_calls W _ _ _ _ _ _ x1 A c signs h.ring (HG.out.below h.below HG.out.lt) HI.out.fit.len HSL.out (fun v hv => by have := HI.out.small v hv; omega) (by have := HZ1.out; omega) hC hc hz hsl)
      have HCN := Aside0.mk HI.out.count
      have CN1 := Aside0.mk (fun (W : World) (h : St w W (w.heap.size + 1) w.heap.size vk vv (.slice b8 all.length c8) ks vs all) => (show Calls Tryd.prog 14 #[.pointer (some ⟨w.heap.size + 1, 0, none⟩), .string x1, .slice b8 all.length c8] W (fun e w' => e = .returned (.int .i64 (ks.length : Nat)) ∧ Below W.heap.size W w') from by
        obtain ⟨A', c', e', hC', _⟩ := reads_of h.row
        cases e'
        have := CC.out W h b8 c8 all hC' hcA (fun s hs => by have := HZA.out s hs; omega) (by omega)
        rw [HCN.out] at this
        exact this))
      have CSG := Aside0.mk (fun (W : World) (h : St w W (w.heap.size + 1) w.heap.size vk vv (.slice b8 all.length c8) ks vs all) => signers_calls W _ _ _ _ _ _ h.ring (by have := HSL.out; omega))
      clear hlA hCA
      go_wp2_with (first
          | (go_at_call 14; ((with_reducible refine (CN1.out _ HS.out).mono ?_)); rintro e w5 ⟨rfl, hb⟩; have HS5 := Aside0.mk (HS.out.less hb); clear hb)
          | (go_at_call 15; ((with_reducible refine (CSG.out _ HS5.out).mono ?_)); rintro e w6 ⟨bz, cz, rfl, hb⟩; have HS6 := Aside0.mk (HS5.out.less hb); clear hb))
      go_loopg [14, 68] all.length (fun g v14 v68 wx => ∃ (i : Nat) (b : Option Addr) (n c : Nat), i + g = all.length ∧ v68 = .int .i64 (i : Int) ∧ v14 = .slice b n c ∧ Aside0 (Kd.R Kd.string 9 wx w6.heap.size (fun _ => True) (.slice b n c) (turn all i)) ∧ Aside0 (Below w6.heap.size w6 wx))
      case atStart => exact ⟨0, _, _, _, by omega, rfl, rfl, ⟨nil_R⟩, ⟨Below.refl _ _⟩⟩
      case round =>
        obtain ⟨i, b14, n14, c14, hig, rfl, rfl, HRT, HBT⟩ := hrel
        cases gk with
        | succ g =>
          have hi : i < all.length := by omega
          have HST := Aside0.mk (HS6.out.less HBT.out)
          obtain ⟨A9, c9, e9, hCB, hcB⟩ := reads_of HST.out.row
          injection e9 with e91 e92 e93
          subst e91 e93
          obtain ⟨ad, rfl, hl0⟩ := Kd.at_string hCB (0 : Int) (by omega) (by omega)
          obtain ⟨k, hk⟩ : ∃ k : Nat, k = all.length - 1 - i := ⟨_, rfl⟩
          obtain ⟨ad', e', hl1⟩ := Kd.at_string hCB (k : Int) (by omega) (by omega)
          injection e' with e'
          subst e'
          have q3 : (0 ≤ (k : Int)) = True := eq_true (by omega)
          have q4 : ((k : Int) < (all.length : Int)) = True := eq_true (by omega)
          have q5 : ((0 : Int) < (all.length : Int)) = True := eq_true (by omega)
          have q6 : (k < all.length) = True := eq_true (by omega)
          have q7 : (0 < all.length) = True := eq_true (by omega)
          have hla := HLA.out
          have q2 : IntKind.i64.wrap ((all.length : Int) - 1 - (i : Int)) = (k : Int) := by rw [IntWalk.i64_in _ (by omega)]; omega
          have q1 : IntKind.i64.wrap ((all.length : Int) - 1) = (all.length : Int) - 1 := IntWalk.i64_in _ (by clear q2; omega)
          have HTN := Aside0.mk (show turn all (i + 1) = turn all i ++ [rdOf ByteArray.empty all (k : Int), rdOf ByteArray.empty all 0] from by rw [turn, hk]; rfl)
          have HTL := Aside0.mk (turn_length all i)
          obtain ⟨ya, hya⟩ : ∃ y, rdOf ByteArray.empty all (k : Int) = y := ⟨_, rfl⟩
          obtain ⟨yb, hyb⟩ : ∃ y, rdOf ByteArray.empty all (0 : Int) = y := ⟨_, rfl⟩
          rw [hya, hyb] at HTN
          rw [hya, Int.toNat_natCast] at hl1
          rw [hyb] at hl0
          clear hya hyb hCB hla hk
          go_wp2
          have e0 : ad.add (Int.toNat 0) = ad := addr_zero ad
          rw [e0] at hl0
          clear e0
          have hd : Below wr.heap.size wr (World.drew wr) := below_drew (Below.refl _ wr)
          have HBT2 := Aside0.mk (HBT.out.trans (hd.mono HBT.out.size))
          have HRT2 := Aside0.mk (r_below HRT.out hd)
          have HELD := Aside0.mk (show (fun W => W.cell? (ad.add k) = some (.string ya) ∧ W.cell? ad = some (.string yb)) (World.drew wr) from ⟨cell_below hd hl1, cell_below hd hl0⟩)
          clear hd hl0 hl1
          refine wp_region_but 12 (fun W => W.cell? (ad.add k) = some (.string ya) ∧ W.cell? ad = some (.string yb)) (by kernel_rfl) ?_
          generalize World.drew wr = wd at HBT2 HRT2 HELD ⊢
          refine wpAnyB_take (i := 0) rfl (by kernel_rfl) (by kernel_rfl) (by kernel_rfl) (by decide) (fun _ _ _ h => h) (Or.inl ⟨by kernel_rfl, fun w _ => by go_simp <;> with_reducible rfl⟩) (fun _ => HELD.out) ?_
          try simp only [Act.put, List.setIfInBounds_toArray, List.set_cons_zero, List.set_cons_succ]
          refine wpAnyB_take (i := 1) rfl (by kernel_rfl) (by kernel_rfl) (by kernel_rfl) (by decide) (fun _ _ _ h => h) (Or.inl ⟨by kernel_rfl, fun w _ => by go_simp <;> with_reducible rfl⟩) (fun _ => HELD.out) ?_
          try simp only [Act.put, List.setIfInBounds_toArray, List.set_cons_zero, List.set_cons_succ]
          refine wpAnyB_take (i := 2) rfl (by kernel_rfl) (by kernel_rfl) (by kernel_rfl) (by decide) (fun _ _ _ h => h) (Or.inl ⟨by kernel_rfl, fun w _ => by go_simp <;> with_reducible rfl⟩) (fun _ => HELD.out) ?_
          try simp only [Act.put, List.setIfInBounds_toArray, List.set_cons_zero, List.set_cons_succ]
          refine wpAnyB_take (i := 3) rfl (by kernel_rfl) (by kernel_rfl) (by kernel_rfl) (by decide) (fun _ _ _ h => h) (Or.inl ⟨by kernel_rfl, fun w _ => by go_simp <;> with_reducible rfl⟩) (fun _ => HELD.out) ?_
          try simp only [Act.put, List.setIfInBounds_toArray, List.set_cons_zero, List.set_cons_succ]
          refine wpAnyB_take (i := 4) rfl (by kernel_rfl) (by kernel_rfl) (by kernel_rfl) (by decide) (fun _ _ _ h => h) (Or.inl ⟨by kernel_rfl, fun w _ => by go_simp <;> with_reducible rfl⟩) (fun _ => HELD.out) ?_
          try simp only [Act.put, List.setIfInBounds_toArray, List.set_cons_zero, List.set_cons_succ]
          refine wpAnyB_take (i := 5) rfl (by kernel_rfl) (by kernel_rfl) (by kernel_rfl) (by decide) (fun _ _ _ h => h) (Or.inl ⟨by kernel_rfl, fun w _ => by go_simp <;> with_reducible rfl⟩) (fun _ => HELD.out) ?_
          try simp only [Act.put, List.setIfInBounds_toArray, List.set_cons_zero, List.set_cons_succ]
          refine wpAnyB_take (i := 6) rfl (by kernel_rfl) (by kernel_rfl) (by kernel_rfl) (by decide) (fun _ _ _ h => h) (Or.inl ⟨by kernel_rfl, fun w _ => by go_simp <;> with_reducible rfl⟩) (fun _ => HELD.out) ?_
          try simp only [Act.put, List.setIfInBounds_toArray, List.set_cons_zero, List.set_cons_succ]
          refine wpAnyB_take (i := 7) rfl (by kernel_rfl) (by kernel_rfl) (by kernel_rfl) (by decide) (fun _ _ _ h => h) (Or.inl ⟨by kernel_rfl, fun w _ => by go_simp <;> with_reducible rfl⟩) (fun _ => HELD.out) ?_
          try simp only [Act.put, List.setIfInBounds_toArray, List.set_cons_zero, List.set_cons_succ]
          refine wpAnyB_load (i := 8) rfl (by kernel_rfl) (by kernel_rfl) (by kernel_rfl) (by decide) (by kernel_rfl) (by kernel_rfl) (fun _ _ _ h => h) (Or.inl ⟨by kernel_rfl, fun w hS => by have hcv := hS.1; go_simp <;> with_reducible rfl⟩) HELD.out ?_
          try simp only [Act.put, List.setIfInBounds_toArray, List.set_cons_zero, List.set_cons_succ]
          refine wpAnyB_take (i := 9) rfl (by kernel_rfl) (by kernel_rfl) (by kernel_rfl) (by decide) (fun _ _ _ h => h) (Or.inl ⟨by kernel_rfl, fun w _ => by go_simp <;> with_reducible rfl⟩) (fun _ => HELD.out) ?_
          try simp only [Act.put, List.setIfInBounds_toArray, List.set_cons_zero, List.set_cons_succ]
          refine wpAnyB_take (i := 10) rfl (by kernel_rfl) (by kernel_rfl) (by kernel_rfl) (by decide) (fun _ _ _ h => h) (Or.inl ⟨by kernel_rfl, fun w _ => by go_simp <;> with_reducible rfl⟩) (fun _ => HELD.out) ?_
          try simp only [Act.put, List.setIfInBounds_toArray, List.set_cons_zero, List.set_cons_succ]
          refine wpAnyB_load (i := 11) rfl (by kernel_rfl) (by kernel_rfl) (by kernel_rfl) (by decide) (by kernel_rfl) (by kernel_rfl) (fun _ _ _ h => h) (Or.inl ⟨by kernel_rfl, fun w hS => by have hcv := hS.2; go_simp <;> with_reducible rfl⟩) HELD.out ?_
          try simp only [Act.put, List.setIfInBounds_toArray, List.set_cons_zero, List.set_cons_succ]
          clear q1 q2 q3 q4 q5 q6 q7
          refine wpAnyB_one (i := 12) rfl (by kernel_rfl) (fun K9 hK => ?_)
          rw [if_pos (by kernel_rfl)]
          go_simp
          refine hK _ _ (fun h => Bool.noConfusion (h.symm.trans (show _ = true by kernel_rfl))) ?_
          generalize hW8 : World.alloc wd (.cells #[.string ya, .string yb] 9) = w8
          have hb8 := below_alloc1 hW8
          have hq8 : SQ w8 wd.heap.size 2 [ya, yb] := (by rw [← hW8]; exact ⟨⟨_, World.alloc_heap_new wd _, rfl, rfl⟩, Nat.le_refl _, by decide⟩)
          clear hK K9 HELD hW8
          try simp only [Act.put, List.setIfInBounds_toArray, List.set_cons_zero, List.set_cons_succ]
          refine wpAnyB_one (i := 13) rfl (by kernel_rfl) (fun K9 hK => ?_)
          refine Kd.R_append_rows_step Kd.string (Rr := Kd.string.K w8) (w0 := w6) w6.heap.size (by kernel_rfl) (.tmp 71) (.tmp 83) 37 9 (.string ⟨#[]⟩) 16 rfl Tryd.underlying37 rfl rfl (by decide) (by decide) (.slice b14 n14 c14) (turn all i) [ya, yb] _ 2 2 (fun _ => True) (fun _ => False) rfl rfl (r_below HRT2.out hb8) hq8.all (fun _ _ h => h) (fun _ h => h.elim) (fun _ _ => trivial) (HBT2.out.trans (hb8.mono HBT2.out.size)) (Nat.le_trans HBT2.out.size hb8.size) (by have := HTL.out; have := HLA.out; omega) ?_
          intro v1 w9 ho hb hg hat
          obtain ⟨b9, n9, c9, rfl⟩ := row_slice (row_of_R ho)
          have HR9 := Aside0.mk ho
          have HB9 := Aside0.mk hb
          clear ho hb hg hat hq8 hb8
          refine hK _ _ (fun h => Bool.noConfusion (h.symm.trans (show _ = true by kernel_rfl))) ?_
          clear hK K9
          try simp only [Act.put, List.setIfInBounds_toArray, List.set_cons_zero, List.set_cons_succ]
          refine wpAnyB_take (i := 14) rfl (by kernel_rfl) (by kernel_rfl) (by kernel_rfl) (by decide) (fun _ _ _ h => h) (Or.inl ⟨by kernel_rfl, fun w _ => by go_simp <;> with_reducible rfl⟩) (fun h => Bool.noConfusion (h.symm.trans (show _ = true by kernel_rfl))) ?_
          try simp only [Act.put, List.setIfInBounds_toArray, List.set_cons_zero, List.set_cons_succ]
          refine wpAnyB_done (by kernel_rfl) ?_ _
          have hla2 := HLA.out
          go_wp2
          go_roundg g
          case measure => omega
          case rel => exact ⟨i + 1, _, _, _, by omega, by go_num, rfl, ⟨by rw [HTN.out]; exact HR9.out⟩, HB9⟩
        | zero =>
          obtain rfl : i = all.length := by omega
          have HST := Aside0.mk (HS6.out.less HBT.out)
          obtain ⟨A14, c14', e14, hCT, hcT⟩ := reads_of HRT.out
          injection e14 with e141 e142 e143
          subst e141 e142 e143
          have CT1 := Aside0.mk (show Calls Tryd.prog 14 #[.pointer (some ⟨w.heap.size + 1, 0, none⟩), .string x1, .slice b14 (turn all all.length).length c14] wr (fun e w' => e = .returned (.int .i64 (ks.length : Nat)) ∧ Below wr.heap.size wr w') from by
            have := CC.out wr HST.out b14 c14 (turn all all.length) hCT hcT (fun s hs => by have := HZA.out s (turn_sub all _ (Nat.le_refl _) s hs); omega) (by rw [turn_length]; have := HLA.out; omega)
            rw [turn_count, HCN.out] at this
            exact this)
          have CS1 := Aside0.mk (fun (W : World) (h : St w W (w.heap.size + 1) w.heap.size vk vv (.slice b8 all.length c8) ks vs all) => CC.out W h A2 c2 xs2 (Kd.C_below H2.out h.below) HC2.out (fun s hs => by have := HZ2.out s hs; omega) (by have := HN2.out; omega))
          have hle : (countL ks vs x1 xs2).length ≤ ks.length := by rw [← HCN.out]; exact count_sub _ _ _ _ _ HSUB.out
          obtain ⟨NS, hNS⟩ : ∃ n, (countL ks vs x1 xs2).length = n := ⟨_, rfl⟩
          simp only [hNS] at CS1
          rw [hNS] at hle
          clear hNS hCT
          have r1 : (ks.length < NS) = False := eq_false (by omega)
          have r2 : ((ks.length : Int) < (NS : Int)) = False := eq_false (by omega)
          go_wp2_with (first
            | (go_at_call_has 14 (Value.slice b14 (turn all all.length).length c14); ((with_reducible refine CT1.out.mono ?_)); rintro e w7 ⟨rfl, hb⟩; have HS7 := Aside0.mk (HST.out.less hb); clear hb)
            | (go_at_call 14; ((with_reducible refine (CS1.out w7 HS7.out).mono ?_)); rintro e w8 ⟨rfl, hb⟩; have HS8 := Aside0.mk (HS7.out.less hb); clear hb))
          go_loopg [102] all.length (fun g v102 wx => ∃ (i : Nat), i + g = all.length ∧ v102 = .int .i64 (i : Int) ∧ Aside0 (Below w8.heap.size w8 wx))
          case atStart => exact ⟨0, by omega, rfl, ⟨Below.refl _ _⟩⟩
          case round =>
            obtain ⟨i, hig, rfl, HBK⟩ := hrel
            cases gk with
            | zero =>
              obtain rfl : i = all.length := by omega
              go_wp2
              go_ret
              exact ⟨rfl, HS8.out.below.trans (HBK.out.mono HS8.out.below.size)⟩
            | succ g =>
              have hi : i < all.length := by omega
              have HSK := Aside0.mk (HS8.out.less HBK.out)
              rcases SQ.of_R HSK.out.row with ⟨_, e0⟩ | ⟨gb, cap, e0, hq, _, _⟩
              · rw [e0] at hi
                exact absurd hi (by simp)
              · injection e0 with e01 e02 e03
                subst e01 e03
                have hcap := hq.len
                have htl : (all.take i).length = i := by rw [List.length_take]; omega
                have CK := Aside0.mk (show Calls Tryd.prog 14 #[.pointer (some ⟨w.heap.size + 1, 0, none⟩), .string x1, .slice (some ⟨gb, 0, none⟩) i c8] wr (fun e w' => e = .returned (.int .i64 ((countL ks vs x1 (all.take i)).length : Nat)) ∧ Below wr.heap.size wr w') from by
                  have := CC.out wr HSK.out (some ⟨gb, 0, none⟩) c8 (all.take i) (by rw [htl]; exact hq.reads i (by omega)) (by omega) (fun s hs => by have := HZA.out s (List.mem_of_mem_take hs); omega) (by rw [htl]; have := HLA.out; omega)
                  rw [htl] at this
                  exact this)
                have hm1 : (countL ks vs x1 (all.take i)).length ≤ ks.length := by rw [← HCN.out]; exact count_sub _ _ _ _ _ (fun s hs => List.mem_of_mem_take hs)
                have hm2 : (countL ks vs x1 (all.take i)).length ≤ i := Nat.le_trans (count_le _ _ _ _) (by omega)
                obtain ⟨m, hm⟩ : ∃ m, (countL ks vs x1 (all.take i)).length = m := ⟨_, rfl⟩
                rw [hm] at hm1 hm2
                simp only [hm] at CK
                clear hm htl hq
                have hla := HLA.out
                have p1 : (i ≤ c8) = True := eq_true (by omega)
                go_wp2_with (first
                  | (go_at_call 14; ((with_reducible refine CK.out.mono ?_)); rintro e w9 ⟨rfl, hb⟩; have HB9 := Aside0.mk (HBK.out.trans (hb.mono HBK.out.size)); clear hb))
                go_roundg g
                case measure => omega
                case rel => exact ⟨i + 1, by omega, by go_num, HB9⟩
end Go.Proofs.YtdjhhljijpadoaaDoor.Table
/- A world in which the listed variables (SHA-256's two tables) read as the row lists them: the door's own heap, the tables laid. -/
namespace Go.Proofs.YtdjhhljijpadoaaDoor.Door
open Go
set_option linter.unusedVariables false

def cellsOfData : DataW Unit → Array Value
  | .agg l => (l.map fun | .lit (.int k x) => Value.int k x | _ => undef).toArray
  | _ => #[]
/-- The two tables' numbers. -/
theorem gStart : Tryd.prog.globalNamed "depot/sha.start" = some 0 := by kernel_rfl
theorem gRounds : Tryd.prog.globalNamed "depot/sha.rounds" = some 1 := by kernel_rfl
noncomputable def W0 (os : Os) : World :=
  { World.doorLaid Tryd.prog 19 os with heap := ((World.doorLaid Tryd.prog 19 os).heap.modify 0 fun | .cells _ t f => .cells (cellsOfData Rows.laid_depot_sha_start) t f | o => o).modify 1 fun | .cells _ t f => .cells (cellsOfData Rows.laid_depot_sha_rounds) t f | o => o }
abbrev laid2 : List (String × DataW Unit) := [("depot/sha.rounds", Rows.laid_depot_sha_rounds), ("depot/sha.start", Rows.laid_depot_sha_start)]
theorem met (os : Os) (args : Array Value) : laidMetH Tryd.prog laid2 ((W0 os).forCall (fun _ _ => 0) ⟨#[], args, []⟩).memory :=
  laidMetH_of_parts3 (fuel := 8) (laidMet_of_run' 8 (by kernel_rfl) (by kernel_rfl)) (by kernel_rfl) (by kernel_rfl)
theorem shaped (os : Os) (args : Array Value) : ((W0 os).forCall (fun _ _ => 0) ⟨#[], args, []⟩).Shaped Tryd.prog := World.shaped_of_RefB (by kernel_rfl) (by kernel_rfl)
end Go.Proofs.YtdjhhljijpadoaaDoor.Door
/- What came in, opened by its kind: a reading of a value ys data gives the Lean value of the print's kinds, with its sizes. For rows over slices and structs. -/
set_option linter.unusedVariables false
set_option linter.unusedSimpArgs false
namespace Go.Proofs.YtdjhhljijpadoaaDoor.Opens
open Go.RowKit Go.Deep Go.Proofs.YtdjhhljijpadoaaDoorW.PrintWords

section
variable {α β : Type}
/-- A reading at type t gives a value of kind d: its cells (K), its weights (each no more than one of the datum's, or 0), its bulk, and what is good about its numbers. -/
structure Opens (P : Program) (t : TypeId) (d : Kd α) (Wt : α → List Nat) (Bk : α → Nat) (Gd : α → Prop) : Prop where
  sz : P.cellsOf t = d.sz
  out : ∀ {H : Type} {enc : TypeId × Value → H} {w : World} {base : Nat} {spare : Nat → Bool} {held : Bool} {fuel : Nat} {cs : List Value} {x : DataW H × List MemPlace},
    DataW.trod enc P w base spare held fuel t cs = some x → ∃ a, d.K w a cs ∧ (∀ n ∈ Wt a, n = 0 ∨ ∃ m ∈ x.1.weights P t, n ≤ m) ∧ Bk a ≤ Rows.uptoBulk x.1 ∧ Gd a

variable {P : Program} {t : TypeId}
theorem opens_string (ht : P.underlying t = some .string) (hs : P.cellsOf t = 1) : Opens P t Kd.string (fun s => [s.size]) (fun s => s.size + 1) (fun s => s.size ≤ maxLen) := by
  refine ⟨hs, fun {H enc w base spare held fuel cs x} h => ?_⟩
  obtain ⟨s, rfl, rfl, hw⟩ := DataW.trod_string ht h
  refine ⟨s, rfl, ?_, ?_, hw⟩
  · intro n hn
    rw [List.mem_singleton] at hn
    refine .inr ⟨s.data.toList.length, by rw [DataW.weights]; exact List.mem_singleton.2 rfl, ?_⟩
    rw [hn, Array.length_toList]
    exact Nat.le_refl _
  · rw [Rows.uptoBulk, Array.length_toList]
    exact Nat.le_refl _
theorem opens_bool (ht : P.underlying t = some .bool) (hs : P.cellsOf t = 1) : Opens P t Kd.bool (fun _ => []) (fun _ => 1) (fun _ => True) := by
  refine ⟨hs, fun {H enc w base spare held fuel cs x} h => ?_⟩
  obtain ⟨b, rfl, rfl⟩ := DataW.trod_bool ht h
  exact ⟨b, rfl, fun _ h => absurd h (by simp), by rw [Rows.uptoBulk] <;> simp, trivial⟩
theorem opens_int {k : IntKind} (ht : P.underlying t = some (.int k)) (hs : P.cellsOf t = 1) : Opens P t (Kd.int k) (fun _ => []) (fun _ => 1) (fun n => (Lit.int k n).wf = true) := by
  refine ⟨hs, fun {H enc w base spare held fuel cs x} h => ?_⟩
  obtain ⟨n, rfl, rfl, hw⟩ := DataW.trod_int ht h
  exact ⟨n, rfl, fun _ h => absurd h (by simp), by rw [Rows.uptoBulk] <;> simp, hw⟩

theorem list_of {Q : Nat → α → Prop} : ∀ (n : Nat), (∀ i, i < n → ∃ a, Q i a) → ∃ ys : List α, ys.length = n ∧ ∀ i a, ys[i]? = some a → Q i a
  | 0, _ => ⟨[], rfl, fun i a h => by simp at h⟩
  | n + 1, h => by
    obtain ⟨ys, hl, hq⟩ := list_of n (fun i hi => h i (by omega))
    obtain ⟨a, ha⟩ := h n (by omega)
    refine ⟨ys ++ [a], by simp [hl], fun i b hb => ?_⟩
    rcases Nat.lt_or_ge i n with hi | hi
    · rw [List.getElem?_append_left (by omega)] at hb
      exact hq i b hb
    · have : i < (ys ++ [a]).length := (List.getElem?_eq_some_iff.1 hb).1
      simp [hl] at this
      have e : i = n := by omega
      subst e
      rw [List.getElem?_append_right (by omega), hl, Nat.sub_self] at hb
      simp at hb
      subst hb
      exact ha
theorem sum_le_range (ys : List α) (Bk : α → Nat) (b : Nat → Nat) (h : ∀ i a, ys[i]? = some a → Bk a ≤ b i) : (ys.map Bk).sum ≤ ((List.range ys.length).map b).sum := by
  induction ys generalizing b with
  | nil => simp
  | cons a ys ih =>
    have h0 := h 0 a rfl
    have h1 := ih (fun i => b (i + 1)) (fun i a ha => h (i + 1) a (by simpa using ha))
    rw [List.length_cons, List.range_succ_eq_map, List.map_cons, List.sum_cons, List.map_cons, List.sum_cons, List.map_map]
    have e : (List.map (b ∘ Nat.succ) (List.range ys.length)) = List.map (fun i => b (i + 1)) (List.range ys.length) := rfl
    rw [e]
    omega
theorem bulkAll_sum {H : Type} (l : List (DataW H)) : Rows.uptoBulkAll l = (l.map Rows.uptoBulk).sum := by
  induction l with
  | nil => rfl
  | cons d l ih => rw [Rows.uptoBulkAll, ih, List.map_cons, List.sum_cons]
theorem weightsAll_mem {H : Type} {e : TypeId} : ∀ (l : List (DataW H)) (d : DataW H), d ∈ l → ∀ m ∈ d.weights P e, m ∈ DataW.weightsAll P e l
  | [], d, h => absurd h (by simp)
  | d' :: l, d, h => by
    intro m hm
    rw [DataW.weightsAll, List.mem_append]
    rcases List.mem_cons.1 h with rfl | h
    · exact .inl hm
    · exact .inr (weightsAll_mem l d h m hm)

theorem opens_slice {e : TypeId} {d : Kd α} {Wt : α → List Nat} {Bk : α → Nat} {Gd : α → Prop} (ht : P.underlying t = some (.slice e)) (hs : P.cellsOf t = 1) (he : Opens P e d Wt Bk Gd) :
    Opens P t (Kd.slice e d) (fun xs => (xs.length * P.bytesOf e) :: xs.flatMap Wt) (fun xs => (xs.map Bk).sum + 1) (fun xs => xs.length ≤ maxLen ∧ ∀ x ∈ xs, Gd x) := by
  refine ⟨hs, fun {H enc w base spare held fuel cs x} h => ?_⟩
  rcases open_slice ht h with ⟨rfl, rfl⟩ | ⟨a, len, cap, m, n, D, Pl, rfl, hb, hl, hm, hmm, rfl, hx⟩
  · exact ⟨[], ⟨none, 0, rfl, Nat.le_refl _, Kd.C_nil d w⟩, fun n hn => .inl (by simpa using hn), by rw [Rows.uptoBulk]; simp, by simp, by simp⟩
  · have hlm : len ≤ m := by rw [hmm]; split <;> omega
    have each : ∀ i, i < len → ∃ b : α, (∃ cs', w.cells? base (a.add (i * P.cellsOf e)) (P.cellsOf e) = some cs' ∧ d.K w b cs') ∧ (∀ q ∈ Wt b, q = 0 ∨ ∃ r ∈ (D i).weights P e, q ≤ r) ∧ Bk b ≤ Rows.uptoBulk (D i) ∧ Gd b := by
      intro i hi
      obtain ⟨cs', h1, h2⟩ := hx i (by omega)
      obtain ⟨b, hK, hw, hk, hg⟩ := he.out h2
      exact ⟨b, ⟨cs', h1, hK⟩, hw, hk, hg⟩
    obtain ⟨ys, hal, has⟩ := list_of len each
    subst hal
    refine ⟨ys, ⟨some a, cap, rfl, hl, rfl, by unfold maxLen at hm; omega, fun hp => ⟨a, rfl, fun j p hj => ?_⟩⟩, ?_, ?_, by omega, ?_⟩
    · obtain ⟨⟨cs', h1, hK⟩, _⟩ := has j p hj
      refine ⟨cs', d.K_len hK, hK, fun i u hu => ?_⟩
      have hc := World.cells?_some h1
      rw [he.sz] at hc
      obtain ⟨hc0, hc1, hc2⟩ := hc
      have hi : i < d.sz := by rw [← d.K_len hK]; exact (List.getElem?_eq_some_iff.1 hu).1
      have := hc2 i (by omega)
      rw [hu] at this
      rw [Go.Deep.add_add] at this
      exact this
    · intro q hq
      rw [List.mem_cons, List.mem_flatMap] at hq
      have hwt : (DataW.slice ((List.range ys.length).map D) ((List.range (m - ys.length)).map fun j => D (ys.length + j)) : DataW H).weights P t = (((List.range ys.length).map D).length + ((List.range (m - ys.length)).map fun j => D (ys.length + j)).length) * P.bytesOf e :: (DataW.weightsAll P e ((List.range ys.length).map D) ++ DataW.weightsAll P e ((List.range (m - ys.length)).map fun j => D (ys.length + j))) := by
        rw [DataW.weights, ht]
      show q = 0 ∨ ∃ r ∈ (DataW.slice ((List.range ys.length).map D) ((List.range (m - ys.length)).map fun j => D (ys.length + j)) : DataW H).weights P t, q ≤ r
      rw [hwt]
      rcases hq with rfl | ⟨b, hbm, hq⟩
      · refine .inr ⟨_, List.mem_cons_self, ?_⟩
        refine Nat.mul_le_mul_right _ ?_
        simp
      · obtain ⟨i, hi⟩ := List.getElem?_of_mem hbm
        have hil : i < ys.length := (List.getElem?_eq_some_iff.1 hi).1
        obtain ⟨_, hw, _⟩ := has i b hi
        rcases hw q hq with h0 | ⟨r, hr, hqr⟩
        · exact .inl h0
        · exact .inr ⟨r, List.mem_cons_of_mem _ (List.mem_append_left _ (weightsAll_mem _ (D i) (List.mem_map.2 ⟨i, List.mem_range.2 hil, rfl⟩) r hr)), hqr⟩
    · show _ ≤ Rows.uptoBulk (DataW.slice ((List.range ys.length).map D) ((List.range (m - ys.length)).map fun j => D (ys.length + j)) : DataW H)
      rw [Rows.uptoBulk, bulkAll_sum, List.map_map]
      have := sum_le_range ys Bk (fun i => Rows.uptoBulk (D i)) (fun i b hb => (has i b hb).2.2.1)
      have e2 : (List.map (Rows.uptoBulk ∘ D) (List.range ys.length)) = List.map (fun i => Rows.uptoBulk (D i)) (List.range ys.length) := rfl
      rw [e2]
      omega
    · intro b hbm
      obtain ⟨i, hi⟩ := List.getElem?_of_mem hbm
      exact (has i b hi).2.2.2

/-- Fields, from a place on. -/
structure OpensF (P : Program) (fs : List Field) (off : Nat) (d : Kd α) (Wt : α → List Nat) (Bk : α → Nat) (Gd : α → Prop) : Prop where
  out : ∀ {H : Type} {enc : TypeId × Value → H} {w : World} {base : Nat} {spare : Nat → Bool} {held : Bool} {fuel : Nat} {cs : List Value} {xs : List (DataW H × List MemPlace)},
    cs.length = off + d.sz → xs.length = fs.length → (∀ (i : Nat) (f : Field), fs[i]? = some f → DataW.trod enc P w base spare held fuel f.type ((cs.drop f.offset).take (P.cellsOf f.type)) = xs[i]?) →
    ∃ a, d.K w a (cs.drop off) ∧ (∀ n ∈ Wt a, n = 0 ∨ ∃ m ∈ DataW.weightsEach P (fs.map (·.type)) (xs.map (·.1)), n ≤ m) ∧ Bk a ≤ Rows.uptoBulkAll (xs.map (·.1)) ∧ Gd a
theorem opensF_one {f : Field} {off : Nat} {d : Kd α} {Wt : α → List Nat} {Bk : α → Nat} {Gd : α → Prop} (ho : f.offset = off) (he : Opens P f.type d Wt Bk Gd) : OpensF P [f] off d Wt Bk Gd := by
  refine ⟨fun {H enc w base spare held fuel cs xs} hc hl h => ?_⟩
  match xs, hl with
  | [x], _ =>
    have h0 := h 0 f rfl
    rw [ho, he.sz, List.take_of_length_le (by rw [List.length_drop]; omega)] at h0
    obtain ⟨a, hK, hw, hb, hg⟩ := he.out h0
    refine ⟨a, hK, fun n hn => ?_, ?_, hg⟩
    · rcases hw n hn with h | ⟨m, hm, hle⟩
      · exact .inl h
      · refine .inr ⟨m, ?_, hle⟩
        simp only [List.map_cons, List.map_nil, DataW.weightsEach, List.append_nil]
        exact hm
    · simp only [List.map_cons, List.map_nil, Rows.uptoBulkAll]
      omega
theorem opensF_cons {f : Field} {fs : List Field} {off : Nat} {d : Kd α} {d' : Kd β} {Wt : α → List Nat} {Bk : α → Nat} {Gd : α → Prop} {Wt' : β → List Nat} {Bk' : β → Nat} {Gd' : β → Prop}
    (ho : f.offset = off) (he : Opens P f.type d Wt Bk Gd) (hr : OpensF P fs (off + d.sz) d' Wt' Bk' Gd') :
    OpensF P (f :: fs) off (Kd.pair d d') (fun x => Wt x.1 ++ Wt' x.2) (fun x => Bk x.1 + Bk' x.2) (fun x => Gd x.1 ∧ Gd' x.2) := by
  refine ⟨fun {H enc w base spare held fuel cs xs} hc hl h => ?_⟩
  have hsz : (Kd.pair d d').sz = d.sz + d'.sz := rfl
  rw [hsz] at hc
  match xs, hl with
  | x :: xs, hl =>
    have h0 := h 0 f rfl
    rw [ho, he.sz] at h0
    obtain ⟨a, hK, hw, hb, hg⟩ := he.out h0
    obtain ⟨b, hK', hw', hb', hg'⟩ := hr.out (enc := enc) (w := w) (base := base) (spare := spare) (held := held) (fuel := fuel) (cs := cs) (xs := xs) (by omega) (by simpa using hl) (fun i f' hf => by simpa using h (i + 1) f' (by simpa using hf))
    refine ⟨(a, b), ⟨(cs.drop off).take d.sz, cs.drop (off + d.sz), ?_, hK, hK'⟩, fun n hn => ?_, ?_, hg, hg'⟩
    · rw [← List.drop_drop, List.take_append_drop]
    · simp only [List.map_cons, DataW.weightsEach, List.mem_append]
      rcases List.mem_append.1 hn with hn | hn
      · rcases hw n hn with h | ⟨m, hm, hle⟩
        · exact .inl h
        · exact .inr ⟨m, .inl hm, hle⟩
      · rcases hw' n hn with h | ⟨m, hm, hle⟩
        · exact .inl h
        · exact .inr ⟨m, .inr hm, hle⟩
    · simp only [List.map_cons, Rows.uptoBulkAll]
      omega
theorem opens_struct {fs : Array Field} {d : Kd α} {Wt : α → List Nat} {Bk : α → Nat} {Gd : α → Prop} (ht : P.underlying t = some (.struct fs)) (hs : P.cellsOf t = d.sz) (he : OpensF P fs.toList 0 d Wt Bk Gd) :
    Opens P t d Wt (fun a => Bk a + 1) Gd := by
  refine ⟨hs, fun {H enc w base spare held fuel cs x} h => ?_⟩
  obtain ⟨xs, n, rfl, rfl, hl, hl2, hx⟩ := DataW.trod_struct ht h
  obtain ⟨a, hK, hw, hb, hg⟩ := he.out (enc := enc) (w := w) (base := base) (spare := spare) (held := held) (fuel := n) (cs := cs) (xs := xs) (by omega) (by simpa using hl2) (fun i f hf => hx i f (by simpa using hf))
  refine ⟨a, by simpa using hK, fun n hn => ?_, ?_, hg⟩
  · rcases hw n hn with h | ⟨m, hm, hle⟩
    · exact .inl h
    · refine .inr ⟨m, ?_, hle⟩
      show m ∈ (DataW.agg (xs.map (·.1))).weights P t
      rw [DataW.weights, ht]
      exact hm
  · show _ ≤ Rows.uptoBulk (DataW.agg (xs.map (·.1)))
    rw [Rows.uptoBulk]
    omega
theorem opens_iso {d : Kd α} {Wt : α → List Nat} {Bk : α → Nat} {Gd : α → Prop} (f : β → α) (g : α → β) (hfg : ∀ a, f (g a) = a) (h : Opens P t d Wt Bk Gd) : Opens P t (Kd.iso d f) (fun b => Wt (f b)) (fun b => Bk (f b)) (fun b => Gd (f b)) := by
  refine ⟨h.sz, fun {H enc w base spare held fuel cs x} hx => ?_⟩
  obtain ⟨a, hK, hw, hb, hg⟩ := h.out hx
  refine ⟨g a, ?_, ?_, ?_, ?_⟩
  · show d.K w (f (g a)) cs
    rw [hfg]; exact hK
  · rw [hfg]; exact hw
  · rw [hfg]; exact hb
  · rw [hfg]; exact hg

/-- At an argument: its weights are within the reach. -/
theorem arg {H : Type} {enc : TypeId × Value → H} {w : World} {base : Nat} {spare : Nat → Bool} {held : Bool} {v : Value} {dd : DataW H} {ps : List MemPlace} {d : Kd α} {Wt : α → List Nat} {Bk : α → Nat} {Gd : α → Prop} (h : Opens P t d Wt Bk Gd)
    (hx : DataW.Trod enc P w base spare held t v dd ps) : ∃ a, d.K w a v.cells.toList ∧ (∀ n ∈ Wt a, n = 0 ∨ ∃ m ∈ dd.weights P t, n ≤ m) ∧ Bk a ≤ Rows.uptoBulk dd ∧ Gd a := by
  obtain ⟨fuel, hf⟩ := hx
  obtain ⟨a, h1, h2, h3, h4⟩ := h.out hf
  exact ⟨a, h1, h2, h3, h4⟩
/-- Each weight of an argument is within the reach of the form. -/
theorem reach {H : Type} {ts : List TypeId} {ds : List (DataW H)} (h : (DataW.weightsEach P ts ds).all (· ≤ reachBytes) = true) {j : Nat} {t : TypeId} {dd : DataW H} (ht : ts[j]? = some t) (hd : ds[j]? = some dd) {l : List Nat}
    (hw : ∀ n ∈ l, n = 0 ∨ ∃ m ∈ dd.weights P t, n ≤ m) : ∀ n ∈ l, n ≤ 140737488351232 := by
  intro n hn
  rcases hw n hn with h0 | ⟨m, hm, hle⟩
  · omega
  · have := DataW.weights_mem_each ht hd m hm
    rw [List.all_eq_true] at h
    have h1 := of_decide_eq_true (h m this)
    unfold reachBytes at h1
    omega
end
end Go.Proofs.YtdjhhljijpadoaaDoor.Opens
/- Arrays of numbers, opened; SHA-256's tables out of the row's condition. -/
set_option linter.unusedVariables false
set_option linter.unusedSimpArgs false
namespace Go.Proofs.YtdjhhljijpadoaaDoor.Sha
open Go Go.RowKit Go.Proofs.YtdjhhljijpadoaaDoorW.PrintWords Go.Proofs.YtdjhhljijpadoaaDoor.Bytes

section
variable {H : Type} {enc : TypeId × Value → H} {P : Program} {w : World} {base : Nat} {spare : Nat → Bool} {held : Bool} {fuel : Nat} {t : TypeId} {cs : List Value} {x : DataW H × List MemPlace}
/-- An array of whole numbers: its cells, its data. -/
theorem open_ints {k : IntKind} {n : Nat} {e : TypeId} (ht : P.underlying t = some (.array n e)) (he : P.underlying e = some (.int k)) (hc : P.cellsOf e = 1) (hct : P.cellsOf t = n)
    (h : DataW.trod enc P w base spare held fuel t cs = some x) :
    ∃ l : List Int, l.length = n ∧ cs = l.map (fun i => Value.int k i) ∧ x = (.agg (l.map fun i => .lit (.int k i)), []) ∧ ∀ i ∈ l, (Lit.int k i).wf = true := by
  obtain ⟨xs, m, rfl, rfl, hl, hx, hr⟩ := DataW.trod_array ht h
  rw [hct] at hl
  have each : ∀ i, i < n → ∃ z : Int, cs[i]? = some (.int k z) ∧ xs[i]? = some (.lit (.int k z), []) ∧ (Lit.int k z).wf = true := by
    intro i hi
    have h2 := hr i hi
    rw [hc, Nat.mul_one, List.getElem?_eq_getElem (by omega), List.drop_eq_getElem_cons (by omega), List.take_succ_cons, List.take_zero] at h2
    obtain ⟨z, h3, h4, h5⟩ := DataW.trod_int he h2
    refine ⟨z, ?_, ?_, h5⟩
    · rw [List.getElem?_eq_getElem (by omega)]
      injection h3 with h3 _
      rw [h3]
    · rw [List.getElem?_eq_getElem (by omega), h4]
  obtain ⟨l, hll, hla⟩ := Opens.list_of n each
  have at_ : ∀ i, i < n → ∃ z, l[i]? = some z ∧ cs[i]? = some (.int k z) ∧ xs[i]? = some (.lit (.int k z), []) := fun i hi => by
    have := List.getElem?_eq_getElem (l := l) (i := i) (by omega)
    exact ⟨l[i], this, (hla i _ this).1, (hla i _ this).2.1⟩
  have e1 : cs = l.map (fun i => Value.int k i) := by
    refine List.ext_getElem? fun i => ?_
    rw [List.getElem?_map]
    by_cases hi : i < n
    · obtain ⟨z, h1, h2, _⟩ := at_ i hi
      rw [h1, h2]; rfl
    · rw [List.getElem?_eq_none (by omega), List.getElem?_eq_none (by omega)]; rfl
  have e2 : xs = l.map (fun i => ((.lit (.int k i), []) : DataW H × List MemPlace)) := by
    refine List.ext_getElem? fun i => ?_
    rw [List.getElem?_map]
    by_cases hi : i < n
    · obtain ⟨z, h1, _, h3⟩ := at_ i hi
      rw [h1, h3]; rfl
    · rw [List.getElem?_eq_none (by omega), List.getElem?_eq_none (by omega)]; rfl
  refine ⟨l, hll, e1, ?_, fun i hi => ?_⟩
  · rw [e2, List.map_map]
    congr 1
    clear e2 e1 at_ hla hll
    induction l with
    | nil => rfl
    | cons a l ih => rw [List.map_cons, List.flatMap_cons, ih]; rfl
  · obtain ⟨j, hj⟩ := List.getElem?_of_mem hi
    exact (hla j i hj).2.2
end
/-- Numbers within a byte's range are bytes. -/
theorem bytes_of (l : List Int) (h : ∀ i ∈ l, (Lit.int .u8 i).wf = true) : ∃ d : List UInt8, l = d.map B := by
  refine ⟨l.map fun i => UInt8.ofNat i.toNat, ?_⟩
  rw [List.map_map]
  conv => lhs; rw [← List.map_id l]
  refine List.map_congr_left fun i hi => ?_
  have := bounds_u8 (h i hi)
  show i = ((UInt8.ofNat i.toNat).toNat : Int)
  rw [UInt8.toNat_ofNat']
  omega
theorem lits_inj {k : IntKind} {a b : List Int} (h : (DataW.agg (a.map fun i => .lit (.int k i)) : DataW Unit) = .agg (b.map fun i => .lit (.int k i))) : a = b := by
  injection h with h
  have hinj : Function.Injective (fun i : Int => (DataW.lit (.int k i) : DataW Unit)) := fun x y hxy => by injection hxy with hxy; injection hxy
  exact List.map_inj_right (fun x y hxy => hinj hxy) |>.1 h
theorem rounds_data : (Rows.laid_depot_sha_rounds : DataW Unit) = .agg ((K.map U).map fun i => .lit (.int .u32 i)) := by kernel_rfl
theorem start_data : (Rows.laid_depot_sha_start : DataW Unit) = .agg (([H0.a, H0.b, H0.c, H0.d, H0.e, H0.f, H0.g, H0.k].map U).map fun i => .lit (.int .u32 i)) := by kernel_rfl
theorem gType0 : (Tryd.prog.globals[0]?).map (·.type) = some 69 := by kernel_rfl
theorem gType1 : (Tryd.prog.globals[1]?).map (·.type) = some 88 := by kernel_rfl
/-- One listed table, in the heap. -/
theorem table {w : World} {nm : String} {g n : Nat} {tt e : TypeId} {ws : List Int} {d : DataW Unit} {t : TypeId} {cs : Array Value} {fuel gg : Nat} {p ps : List MemPlace} (hg : Tryd.prog.globalNamed nm = some g) (hgt : (Tryd.prog.globals[g]?).map (·.type) = some tt)
    (htu : Tryd.prog.underlying tt = some (.array n e)) (heu : Tryd.prog.underlying e = some (.int .u32)) (hce : Tryd.prog.cellsOf e = 1) (hct : Tryd.prog.cellsOf tt = n) (hn : 0 < n) (hd : d = .agg (ws.map fun i => .lit (.int .u32 i)))
    (h1 : Tryd.prog.globalNamed nm = some gg) (h2 : (Tryd.prog.globals[gg]?).map (·.type) = some t) (h3 : w.var? Tryd.prog nm = some cs) (h4 : DataW.trod (fun _ => ()) Tryd.prog w 0 (fun _ => true) false fuel t cs.toList = some (d, p))
    (hp : ∀ off, off < cs.size → MemPlace.cell g off ∈ ps) (hall : ∀ b off, MemPlace.cell b off ∈ ps → (∃ c t, w.heap[b]? = some (.cells c t (0, 0)))) :
    ∃ t, w.heap[g]? = some (.cells (ws.map fun i => Value.int .u32 i).toArray t (0, 0)) := by
  rw [hg] at h1
  injection h1 with h1
  subst h1
  rw [hgt] at h2
  injection h2 with h2
  subst h2
  obtain ⟨l, hll, hcs, hx, _⟩ := open_ints htu heu hce hct h4
  injection hx with hx _
  rw [hd] at hx
  have := lits_inj hx
  subst this
  have hsz : cs.size = n := by rw [← Array.length_toList, hcs, List.length_map, hll]
  obtain ⟨c, t, hc⟩ := hall g 0 (hp 0 (by omega))
  unfold World.var? at h3
  rw [hg] at h3
  have h3' : (match w.heap[g]? with | some (.cells cs _ _) => some cs | _ => none) = some cs := h3
  rw [hc] at h3'
  injection h3' with h3'
  subst h3'
  refine ⟨t, ?_⟩
  rw [hc]
  exact congrArg (fun z => some (Obj.cells z t (0, 0))) (Array.toList_inj.1 (show c.toList = (ws.map fun i => Value.int .u32 i).toArray.toList from hcs))
theorem row_mem (g : Nat) (n : Nat) : ∀ off, off < n → MemPlace.cell g off ∈ MemPlace.row ⟨g, 0, none⟩ n := by
  intro off h
  unfold MemPlace.row
  refine List.mem_map.2 ⟨off, List.mem_range.2 h, ?_⟩
  simp [Addr.add]
set_option maxRecDepth 100000 in
/-- The row's condition gives the tables. -/
theorem glob_of {w : World} (h : laidMetH Tryd.prog Door.laid2 w) : Glob w := by
  have h' : laidMet Tryd.prog Door.laid2 w := h
  obtain ⟨ps, ⟨g1, t1, cs1, fuel1, p1, q1, a1, b1, c1, d1, ⟨g2, t2, cs2, fuel2, p2, q2, a2, b2, c2, d2, hq2, rfl⟩, rfl⟩, _, hall⟩ := h'
  have e1 : g1 = 1 := Option.some.inj (a1.symm.trans Door.gRounds)
  have e2 : g2 = 0 := Option.some.inj (a2.symm.trans Door.gStart)
  have r1 := table (n := 64) (e := 68) (ws := K.map U) Door.gRounds gType1 Tryd.underlying88 Tryd.underlying68 (by kernel_rfl) (by kernel_rfl) (by omega) rounds_data a1 b1 c1 d1 (fun off ho => by
    subst e1
    exact List.mem_append_left _ (List.mem_append_left _ (row_mem _ _ off ho))) (fun b off hb => (hall b off hb).1)
  have r2 := table (n := 8) (e := 68) (ws := [H0.a, H0.b, H0.c, H0.d, H0.e, H0.f, H0.g, H0.k].map U) Door.gStart gType0 Tryd.underlying69 Tryd.underlying68 (by kernel_rfl) (by kernel_rfl) (by omega) start_data a2 b2 c2 d2 (fun off ho => by
    subst e2
    exact List.mem_append_right _ (List.mem_append_left _ (List.mem_append_left _ (row_mem _ _ off ho)))) (fun b off hb => (hall b off hb).1)
  refine ⟨?_, ?_⟩
  · obtain ⟨t, ht⟩ := r1
    exact ⟨t, by rw [ht, List.map_map]; rfl⟩
  · obtain ⟨t, ht⟩ := r2
    exact ⟨t, ht⟩
end Go.Proofs.YtdjhhljijpadoaaDoor.Sha
/- Small sums: what a bound on a sum says of each member. -/
namespace Go.Proofs.YtdjhhljijpadoaaDoor.Upto
theorem mem_le {α : Type} (f : α → Nat) : ∀ (l : List α), ∀ x ∈ l, f x ≤ (l.map f).sum
  | [], x, h => by cases h
  | y :: l, x, h => by
    rw [List.map_cons, List.sum_cons]
    rcases List.mem_cons.1 h with rfl | h
    · omega
    · have := mem_le f l x h
      omega
theorem len_le {α : Type} (f : α → Nat) : ∀ (l : List α), (∀ x ∈ l, 1 ≤ f x) → l.length ≤ (l.map f).sum
  | [], _ => Nat.zero_le _
  | y :: l, h => by
    rw [List.map_cons, List.sum_cons, List.length_cons]
    have h1 := h y List.mem_cons_self
    have := len_le f l (fun x hx => h x (List.mem_cons_of_mem _ hx))
    omega
end Go.Proofs.YtdjhhljijpadoaaDoor.Upto
