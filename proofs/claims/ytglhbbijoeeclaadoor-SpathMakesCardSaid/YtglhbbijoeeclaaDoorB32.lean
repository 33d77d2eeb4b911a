/- Base 32, back: what radix.FromBase32 answers, in numbers. -/
import Derived.Test.YtglhbbijoeeclaaDoorQ9
import Derived.Test.YtglhbbijoeeclaaDoorQ8
import Derived.Test.YtglhbbijoeeclaaDoorEv
import Derived.Laws.BitsAllLaws
import Derived.Lib.IndexAny
set_option linter.unusedVariables false
set_option linter.unusedSimpArgs false
namespace Go.Proofs.YtglhbbijoeeclaaDoor.B32
open Go.RowKit Go.Proofs.YtglhbbijoeeclaaDoor.Q Go.Proofs.YtglhbbijoeeclaaDoorW.PrintWords Go.Proofs.YtglhbbijoeeclaaDoorW.PrintLast Go.Proofs.YtglhbbijoeeclaaDoorW.PrintMore Go.Proofs.YtglhbbijoeeclaaDoor.Bytes Go.Proofs.YtglhbbijoeeclaaDoor.Evs

/-- The thirty-two letters. -/
def letters : List UInt8 := [48, 49, 50, 51, 52, 53, 54, 55, 56, 57, 97, 98, 99, 100, 102, 103, 104, 105, 106, 107, 108, 109, 110, 112, 113, 114, 115, 118, 119, 120, 121, 122]
/-- A letter's place, or -1. -/
def val (c : UInt8) : Int := Lib.indexByte letters c
theorem val_fn (c : UInt8) : radix_Value.f (c.toNat : Int) = some (val c) := by
  unfold radix_Value.f strings_IndexByte.f
  rw [back]
  rfl
theorem val_all : ∀ n, n < 256 → (-1 ≤ val (UInt8.ofNat n) ∧ val (UInt8.ofNat n) < 32) := by decide +kernel
theorem val_range (c : UInt8) : -1 ≤ val c ∧ val c < 32 := by
  have := val_all c.toNat c.toNat_lt
  rw [UInt8.ofNat_toNat] at this
  exact this
/-- The number of letters, the first one the lowest. -/
def num : List UInt8 → Nat
  | [] => 0
  | c :: t => (val c).toNat + 32 * num t
theorem num_append (a b : List UInt8) : num (a ++ b) = num a + 32 ^ a.length * num b := by
  induction a with
  | nil => simp [num]
  | cons c a ih =>
    rw [List.cons_append, num, num, ih, List.length_cons, Nat.pow_succ, Nat.mul_add, ← Nat.mul_assoc, Nat.mul_comm 32 (32 ^ a.length)]
    omega
theorem num_lt (l : List UInt8) : num l < 32 ^ l.length := by
  induction l with
  | nil => simp [num]
  | cons c l ih =>
    have := val_range c
    rw [num, List.length_cons, Nat.pow_succ]
    omega
/-- The digits of a number, by bytes, the lowest first. -/
def digs (t M : Nat) : List Nat := (List.range t).map fun j => M / 256 ^ j % 256
theorem digs_succ (t M : Nat) : digs (t + 1) M = digs t M ++ [M / 256 ^ t % 256] := by
  unfold digs
  rw [List.range_succ, List.map_append]
  rfl
theorem digs_more (t M m v : Nat) (h : 8 * t ≤ 5 * m) : digs t (M + 32 ^ m * v) = digs t M := by
  unfold digs
  apply List.map_congr_left
  intro j hj
  rw [List.mem_range] at hj
  have e : 32 ^ m * v = 256 ^ j * (256 * (2 ^ (5 * m - 8 * j - 8) * v)) := by
    have e1 : (32 : Nat) ^ m = 2 ^ (5 * m) := by rw [show (32 : Nat) = 2 ^ 5 from rfl, ← Nat.pow_mul]
    have e2 : (256 : Nat) ^ j = 2 ^ (8 * j) := by rw [show (256 : Nat) = 2 ^ 8 from rfl, ← Nat.pow_mul]
    rw [e1, e2, show (256 : Nat) = 2 ^ 8 from rfl, ← Nat.mul_assoc, ← Nat.mul_assoc, ← Nat.pow_add, ← Nat.pow_add]
    congr 2
    omega
  rw [e, Nat.add_mul_div_left _ _ (Nat.pow_pos (by omega)), Nat.add_mul_mod_self_left]
theorem acc_more (t M m v : Nat) (h : 8 * t ≤ 5 * m) : (M + 32 ^ m * v) / 256 ^ t = M / 256 ^ t + 2 ^ (5 * m - 8 * t) * v := by
  have e : 32 ^ m * v = 256 ^ t * (2 ^ (5 * m - 8 * t) * v) := by
    have e1 : (32 : Nat) ^ m = 2 ^ (5 * m) := by rw [show (32 : Nat) = 2 ^ 5 from rfl, ← Nat.pow_mul]
    have e2 : (256 : Nat) ^ t = 2 ^ (8 * t) := by rw [show (256 : Nat) = 2 ^ 8 from rfl, ← Nat.pow_mul]
    rw [e1, e2, ← Nat.mul_assoc, ← Nat.pow_add]
    congr 2
    omega
  rw [e, Nat.add_mul_div_left _ _ (Nat.pow_pos (by omega))]
theorem acc_lt (t M m : Nat) (h : 8 * t ≤ 5 * m) (hM : M < 32 ^ m) : M / 256 ^ t < 2 ^ (5 * m - 8 * t) := by
  rw [Nat.div_lt_iff_lt_mul (Nat.pow_pos (by omega))]
  have e1 : (32 : Nat) ^ m = 2 ^ (5 * m) := by rw [show (32 : Nat) = 2 ^ 5 from rfl, ← Nat.pow_mul]
  have e2 : (256 : Nat) ^ t = 2 ^ (8 * t) := by rw [show (256 : Nat) = 2 ^ 8 from rfl, ← Nat.pow_mul]
  rw [e1] at hM
  rw [e2, ← Nat.pow_add, show 5 * m - 8 * t + 8 * t = 5 * m by omega]
  exact hM
/-- '|' of a letter beyond the bits held is '+'. -/
theorem or_add (a v h : Nat) (hh : h ≤ 7) (ha : a < 2 ^ h) (hv : v < 32) : Go.bits .or .u64 (a : Int) (shl .u64 (IntKind.u64.wrap (v : Int)) (h : Int)) = ((a + 2 ^ h * v : Nat) : Int) := by
  have hp : 2 ^ h ≤ 2 ^ 7 := Nat.pow_le_pow_right (by omega) hh
  have hv2 : 2 ^ h * v ≤ 2 ^ 7 * 31 := Nat.mul_le_mul hp (by omega)
  have e1 : IntKind.u64.wrap (v : Int) = (v : Int) := by
    simp only [IntKind.wrap, IntKind.bits, IntKind.signed]
    simp
    omega
  have e2 : shl .u64 (v : Int) (h : Int) = ((2 ^ h * v : Nat) : Int) := by
    unfold shl
    have e3 : min ((h : Int)).toNat (IntKind.bits .u64) = h := by
      rw [Int.toNat_natCast]
      exact Nat.min_eq_left (by show h ≤ 64; omega)
    rw [e3]
    have e4 : (v : Int) * 2 ^ h = ((2 ^ h * v : Nat) : Int) := by
      rw [Int.natCast_mul, Int.mul_comm]
      simp
    rw [e4]
    generalize 2 ^ h * v = q at hv2
    simp only [IntKind.wrap, IntKind.bits, IntKind.signed]
    simp
    omega
  rw [e1, e2, u64_or_nat _ _ (by omega) (by omega)]
  congr 1
  rw [Nat.or_comm, ← Nat.two_pow_add_eq_or_of_lt ha, Nat.add_comm]

/-- What a text of letters answers: bytes and the error's number. -/
def dec (l : List UInt8) : ByteArray × Int :=
  if (8 * (5 * l.length / 8) + 4) / 5 ≠ l.length then (⟨#[]⟩, 21)
  else if ∃ c ∈ l, val c < 0 then (⟨#[]⟩, 20)
  else if num l.reverse / 256 ^ (5 * l.length / 8) = 0 then (strOfNums ((digs (5 * l.length / 8) (num l.reverse)).map Int.ofNat), 0) else (⟨#[]⟩, 22)
def fin (R : List UInt8) (n m : Nat) : ByteArray × Int :=
  if ∃ c ∈ R.drop m, val c < 0 then (⟨#[]⟩, 20) else if num R / 256 ^ n = 0 then (strOfNums ((digs n (num R)).map Int.ofNat), 0) else (⟨#[]⟩, 22)
theorem digs_length (t M : Nat) : (digs t M).length = t := by simp [digs]
theorem u64_small (x : Nat) (h : x < 1000) : IntKind.u64.wrap (x : Int) = (x : Int) := by
  simp only [IntKind.wrap, IntKind.bits, IntKind.signed]
  simp
  omega
theorem loop (s : ByteArray) (hs : (bs s).length ≤ 140737488351232) (n : Nat) (h1 : 8 * n ≤ 5 * (bs s).length) (h2 : 5 * (bs s).length < 8 * (n + 1)) (d : Nat) :
    ∀ m t, d + m = (bs s).length → t ≤ n → 8 * t ≤ 5 * m → (t = n ∨ 5 * m < 8 * (t + 1)) →
      Ev (fun k => radix_FromBase32.l0 k s (n : Int) ((digs t (num ((bs s).reverse.take m))).map Int.ofNat) ((num ((bs s).reverse.take m) / 256 ^ t : Nat) : Int) ((5 * m - 8 * t : Nat) : Int) ((d : Int) - 1)) (fin (bs s).reverse n m) := by
  induction d with
  | zero =>
    intro m t hm ht htm hc
    have et : t = n := by omega
    subst et
    have hl : (bs s).reverse.length = m := by rw [List.length_reverse]; omega
    refine succ ?_
    simp only [radix_FromBase32.l0]
    refine neg (by omega) ?_
    have hf : fin (bs s).reverse t m = if num (bs s).reverse / 256 ^ t = 0 then (strOfNums ((digs t (num (bs s).reverse)).map Int.ofNat), 0) else (⟨#[]⟩, 22) := by
      unfold fin
      rw [List.drop_of_length_le (by omega), if_neg (by simp)]
    rw [hf, List.take_of_length_le (by omega)]
    by_cases h : num (bs s).reverse / 256 ^ t = 0
    · rw [if_pos h]
      exact pos (by rw [h]; rfl) (Ev.now _)
    · rw [if_neg h]
      exact neg (by omega) (Ev.now _)
  | succ d ih =>
    intro m t hm ht htm hc
    obtain ⟨R, hR⟩ : ∃ R, (bs s).reverse = R := ⟨_, rfl⟩
    have hl : R.length = (bs s).length := by rw [← hR, List.length_reverse]
    have hmR : m < R.length := by omega
    have hdl : d < (bs s).length := by omega
    have ec : (bs s)[d] = R[m] := by
      subst hR
      rw [List.getElem_reverse]
      congr 1
      omega
    rw [hR] at ih ⊢
    refine succ ?_
    simp only [radix_FromBase32.l0]
    have e1 : ((d + 1 : Nat) : Int) - 1 = (d : Int) := by omega
    rw [e1]
    refine pos (by omega) (pos (by omega) (pos (by rw [size_bs]; omega) ?_))
    rw [bt_lt s d hdl, ec]
    refine call (val_fn R[m]) ?_
    have hv := val_range R[m]
    have htake : R.take (m + 1) = R.take m ++ [R[m]] := List.take_succ_eq_append_getElem hmR
    by_cases hneg : val R[m] < 0
    · refine pos hneg ?_
      unfold fin
      rw [if_pos ⟨R[m], by rw [List.drop_eq_getElem_cons hmR]; exact List.mem_cons_self, hneg⟩]
      exact Ev.now _
    · refine neg hneg (pos (by omega) ?_)
      obtain ⟨v, hv2⟩ : ∃ v : Nat, val R[m] = (v : Int) := ⟨(val R[m]).toNat, by omega⟩
      have hv3 : v < 32 := by omega
      obtain ⟨M, hM⟩ : ∃ M, num (R.take m) = M := ⟨_, rfl⟩
      have hMlt : M < 32 ^ m := by
        have := num_lt (R.take m)
        rw [List.length_take, Nat.min_eq_left (by omega), hM] at this
        exact this
      have hM' : num (R.take (m + 1)) = M + 32 ^ m * v := by
        rw [htake, num_append, hM, List.length_take, Nat.min_eq_left (by omega)]
        simp [num, hv2]
      have hh7 : 5 * m - 8 * t ≤ 7 := by omega
      have hacc := acc_lt t M m htm hMlt
      have hor := or_add (M / 256 ^ t) v (5 * m - 8 * t) hh7 hacc hv3
      rw [← acc_more t M m v htm] at hor
      have hfin : fin R n m = fin R n (m + 1) := by
        unfold fin
        have : (∃ c ∈ R.drop m, val c < 0) ↔ (∃ c ∈ R.drop (m + 1), val c < 0) := by
          rw [List.drop_eq_getElem_cons hmR]
          constructor
          · rintro ⟨c, hc1, hc2⟩
            rcases List.mem_cons.1 hc1 with rfl | hc1
            · exact absurd hc2 hneg
            · exact ⟨c, hc1, hc2⟩
          · rintro ⟨c, hc1, hc2⟩
            exact ⟨c, List.mem_cons_of_mem _ hc1, hc2⟩
        by_cases hx : ∃ c ∈ R.drop (m + 1), val c < 0
        · rw [if_pos hx, if_pos (this.2 hx)]
        · rw [if_neg hx, if_neg (fun h => hx (this.1 h))]
      rw [hM, hv2, hor, hfin]
      have e5 : IntKind.u64.wrap (((5 * m - 8 * t : Nat) : Int) + 5) = ((5 * m - 8 * t + 5 : Nat) : Int) := by
        have := u64_small (5 * m - 8 * t + 5) (by omega)
        rw [← this]; congr 1
      have ed : wrap64 ((d : Int) - 1) = (d : Int) - 1 := w64 (by omega) (by omega)
      rw [e5, ed]
      have edig : digs t (M + 32 ^ m * v) = digs t M := digs_more t M m v htm
      by_cases h8 : 8 ≤ 5 * m - 8 * t + 5
      · refine pos (by omega) ?_
        by_cases htn : t < n
        · refine pos (by rw [List.length_map, digs_length]; omega) (pos (by rw [List.length_map, digs_length]; omega) ?_)
          have e6 : IntKind.u64.wrap (((5 * m - 8 * t + 5 : Nat) : Int) - 8) = ((5 * (m + 1) - 8 * (t + 1) : Nat) : Int) := by
            have := u64_small (5 * (m + 1) - 8 * (t + 1)) (by omega)
            rw [← this]; congr 1; omega
          have := ih (m + 1) (t + 1) (by omega) (by omega) (by omega) (by omega)
          rw [hM', digs_succ, edig] at this
          rw [e6]
          have e7 : (((M + 32 ^ m * v) / 256 ^ t : Nat) : Int) / 256 = (((M + 32 ^ m * v) / 256 ^ (t + 1) : Nat) : Int) := by
            rw [Nat.pow_succ, ← Nat.div_div_eq_div_mul]
            rfl
          have e8 : List.map Int.ofNat (digs t M ++ [(M + 32 ^ m * v) / 256 ^ t % 256]) = List.map Int.ofNat (digs t M) ++ [(((M + 32 ^ m * v) / 256 ^ t : Nat) : Int) % 256] := by
            rw [List.map_append]
            rfl
          rw [e7, ← e8]
          exact this
        · exfalso
          omega
      · refine neg (by omega) ?_
        have := ih (m + 1) t (by omega) (by omega) (by omega) (by omega)
        rw [hM', edig] at this
        have e6 : 5 * (m + 1) - 8 * t = 5 * m - 8 * t + 5 := by omega
        rw [e6] at this
        exact this

theorem fromBase32 (s : ByteArray) (hs : (bs s).length ≤ 140737488351232) : Ev (fun k => radix_FromBase32.f k s) (dec (bs s)) := by
  unfold radix_FromBase32.f dec
  obtain ⟨L, hL⟩ : ∃ L, (bs s).length = L := ⟨_, rfl⟩
  have e1 : wrap64 (Int.tdiv (wrap64 (5 * (s.size : Int))) 8) = ((5 * L / 8 : Nat) : Int) := by
    rw [size_bs, hL]
    have : wrap64 (5 * (L : Int)) = ((5 * L : Nat) : Int) := by rw [w64 (by omega) (by omega)]; omega
    rw [this, Int.tdiv_eq_ediv_of_nonneg (by omega)]
    have : ((5 * L : Nat) : Int) / 8 = ((5 * L / 8 : Nat) : Int) := by omega
    rw [this]
    exact w64 (by omega) (by omega)
  have e2 : wrap64 (Int.tdiv (wrap64 ((wrap64 (8 * ((5 * L / 8 : Nat) : Int))) + 4)) 5) = (((8 * (5 * L / 8) + 4) / 5 : Nat) : Int) := by
    have : wrap64 (8 * ((5 * L / 8 : Nat) : Int)) = ((8 * (5 * L / 8) : Nat) : Int) := by rw [w64 (by omega) (by omega)]; omega
    rw [this]
    have : wrap64 (((8 * (5 * L / 8) : Nat) : Int) + 4) = ((8 * (5 * L / 8) + 4 : Nat) : Int) := by rw [w64 (by omega) (by omega)]; omega
    rw [this, Int.tdiv_eq_ediv_of_nonneg (by omega)]
    have : ((8 * (5 * L / 8) + 4 : Nat) : Int) / 5 = (((8 * (5 * L / 8) + 4) / 5 : Nat) : Int) := by omega
    rw [this]
    exact w64 (by omega) (by omega)
  rw [e1, e2, hL]
  by_cases h : (8 * (5 * L / 8) + 4) / 5 = L
  · refine pos (by rw [size_bs, hL, h]) (pos (by omega) (pos (by omega) ?_))
    rw [if_neg (by omega)]
    have := loop s hs (5 * L / 8) (by omega) (by omega) L 0 0 (by omega) (by omega) (by omega) (by omega)
    have e3 : wrap64 ((s.size : Int) - 1) = (L : Int) - 1 := by rw [size_bs, hL]; exact w64 (by omega) (by omega)
    rw [e3]
    have e4 : fin (bs s).reverse (5 * L / 8) 0 = (if ∃ c ∈ bs s, val c < 0 then (⟨#[]⟩, 20) else if num (bs s).reverse / 256 ^ (5 * L / 8) = 0 then (strOfNums ((digs (5 * L / 8) (num (bs s).reverse)).map Int.ofNat), 0) else (⟨#[]⟩, 22) : ByteArray × Int) := by
      unfold fin
      simp only [List.drop_zero, List.mem_reverse]
    rw [← e4]
    simpa [num, digs] using this
  · refine neg (by rw [size_bs, hL]; omega) ?_
    rw [if_pos h]
    exact Ev.now _
end Go.Proofs.YtglhbbijoeeclaaDoor.B32
