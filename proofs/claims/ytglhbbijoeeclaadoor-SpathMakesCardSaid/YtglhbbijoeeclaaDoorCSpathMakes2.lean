/- Texts of this claim, put together: B32Enc, MakeAll, RSha1, RSha2, RSha3, Q44, RPad, RSha4, Q52, Q53, RHex, Q55, RFold, Q56, Q57, RB32, Q42. -/
import Derived.Test.YtglhbbijoeeclaaDoorCSpathMakes1
import Derived.Test.YtglhbbijoeeclaaDoorB32
import Derived.Test.YtglhbbijoeeclaaDoorQ0
import Derived.Test.YtglhbbijoeeclaaDoorEv
import Derived.Laws.BitsAllLaws
import Derived.Test.YtglhbbijoeeclaaDoorQ41
/- Base 32: what radix.Base32 writes of any bytes, in numbers. -/
set_option linter.unusedVariables false
set_option linter.unusedSimpArgs false
namespace Go.Proofs.YtglhbbijoeeclaaDoor.B32
open Go.RowKit Go.Proofs.YtglhbbijoeeclaaDoor.Q Go.Proofs.YtglhbbijoeeclaaDoorW.PrintWords Go.Proofs.YtglhbbijoeeclaaDoorW.PrintLast Go.Proofs.YtglhbbijoeeclaaDoorW.PrintMore Go.Proofs.YtglhbbijoeeclaaDoor.Bytes Go.Proofs.YtglhbbijoeeclaaDoor.Evs

/-- The number of bytes, the first one the lowest. -/
def numB : List UInt8 → Nat
  | [] => 0
  | c :: t => c.toNat + 256 * numB t
theorem numB_append (a b : List UInt8) : numB (a ++ b) = numB a + 256 ^ a.length * numB b := by
  induction a with
  | nil => simp [numB]
  | cons c a ih =>
    rw [List.cons_append, numB, numB, ih, List.length_cons, Nat.pow_succ, Nat.mul_add, ← Nat.mul_assoc, Nat.mul_comm 256 (256 ^ a.length)]
    omega
theorem numB_lt (l : List UInt8) : numB l < 256 ^ l.length := by
  induction l with
  | nil => simp [numB]
  | cons c l ih =>
    have := c.toNat_lt
    rw [numB, List.length_cons, Nat.pow_succ]
    omega
/-- Letter number v. -/
def lt32 (v : Nat) : UInt8 := letters.getD v 0
/-- The letters of a number, the lowest first. -/
def d32 (t N : Nat) : List UInt8 := (List.range t).map fun j => lt32 (N / 32 ^ j % 32)
theorem d32_len (t N : Nat) : (d32 t N).length = t := by simp [d32]
theorem d32_succ (t N : Nat) : d32 (t + 1) N = d32 t N ++ [lt32 (N / 32 ^ t % 32)] := by
  unfold d32
  rw [List.range_succ, List.map_append]
  rfl
/-- What bytes are as letters. -/
def enc (l : List UInt8) : List UInt8 := (d32 ((8 * l.length + 4) / 5) (numB l)).reverse
theorem pow_parts (i t : Nat) (h : 5 * t ≤ 8 * i) : (256 : Nat) ^ i = 32 ^ t * 2 ^ (8 * i - 5 * t) := by
  have e1 : (32 : Nat) ^ t = 2 ^ (5 * t) := by rw [show (32 : Nat) = 2 ^ 5 from rfl, ← Nat.pow_mul]
  have e2 : (256 : Nat) ^ i = 2 ^ (8 * i) := by rw [show (256 : Nat) = 2 ^ 8 from rfl, ← Nat.pow_mul]
  rw [e1, e2, ← Nat.pow_add]
  congr 1
  omega
theorem d32_more (t M i b : Nat) (h : 5 * t ≤ 8 * i) : d32 t (M + 256 ^ i * b) = d32 t M := by
  unfold d32
  apply List.map_congr_left
  intro j hj
  rw [List.mem_range] at hj
  have e : 256 ^ i * b = 32 ^ j * (32 * (2 ^ (8 * i - 5 * (j + 1)) * b)) := by
    rw [pow_parts i (j + 1) (by omega), Nat.pow_succ]
    simp only [Nat.mul_assoc]
  rw [e, Nat.add_mul_div_left _ _ (Nat.pow_pos (by omega)), Nat.add_mul_mod_self_left]
theorem acc32_more (t M i b : Nat) (h : 5 * t ≤ 8 * i) : (M + 256 ^ i * b) / 32 ^ t = M / 32 ^ t + 2 ^ (8 * i - 5 * t) * b := by
  rw [pow_parts i t h, Nat.mul_assoc, Nat.add_mul_div_left _ _ (Nat.pow_pos (by omega))]
theorem acc32_lt (t M i : Nat) (h : 5 * t ≤ 8 * i) (hM : M < 256 ^ i) : M / 32 ^ t < 2 ^ (8 * i - 5 * t) := by
  rw [Nat.div_lt_iff_lt_mul (Nat.pow_pos (by omega)), Nat.mul_comm, ← pow_parts i t h]
  exact hM
/-- '|' of a byte beyond the bits held is '+'. -/
theorem or_byte (a v h : Nat) (hh : h ≤ 7) (ha : a < 2 ^ h) (hv : v < 256) : Go.bits .or .u64 (a : Int) (shl .u64 (IntKind.u64.wrap (v : Int)) (h : Int)) = ((a + 2 ^ h * v : Nat) : Int) := by
  have hp : 2 ^ h ≤ 2 ^ 7 := Nat.pow_le_pow_right (by omega) hh
  have hv2 : 2 ^ h * v ≤ 2 ^ 7 * 255 := Nat.mul_le_mul hp (by omega)
  have e1 : IntKind.u64.wrap (v : Int) = (v : Int) := by
    simp only [IntKind.wrap, IntKind.bits, IntKind.signed]
    simp
    omega
  have e2 : shl .u64 (v : Int) (h : Int) = ((2 ^ h * v : Nat) : Int) := by
    unfold shl
    have e3 : min ((h : Int)).toNat (IntKind.bits .u64) = h := by
      rw [Int.toNat_natCast]
      exact Nat.min_eq_left (by show h ≤ 64; omega)
    rw [e3]
    have e4 : (v : Int) * 2 ^ h = ((2 ^ h * v : Nat) : Int) := by
      rw [Int.natCast_mul, Int.mul_comm]
      simp
    rw [e4]
    generalize 2 ^ h * v = q at hv2
    simp only [IntKind.wrap, IntKind.bits, IntKind.signed]
    simp
    omega
  rw [e1, e2, u64_or_nat _ _ (by omega) (by omega)]
  congr 1
  rw [Nat.or_comm, ← Nat.two_pow_add_eq_or_of_lt ha, Nat.add_comm]
theorem and_31 (x : Nat) (hx : x < 18446744073709551616) : Go.bits .and .u64 (x : Int) 31 = ((x % 32 : Nat) : Int) := by
  rw [show (31 : Int) = ((31 : Nat) : Int) from rfl, u64_and_nat _ _ hx (by omega)]
  congr 1
  exact Nat.and_two_pow_sub_one_eq_mod x 5
/-- The row so far: room, then the letters. -/
def row32 (m t N : Nat) : List Int := List.replicate (m - t) 0 ++ (d32 t N).reverse.map fun c => (c.toNat : Int)
theorem row32_len (m t N : Nat) (h : t ≤ m) : (row32 m t N).length = m := by
  unfold row32
  rw [List.length_append, List.length_replicate, List.length_map, List.length_reverse, d32_len]
  omega
theorem row32_set (m t N : Nat) (h : t < m) : (row32 m t N).set (m - t - 1) ((lt32 (N / 32 ^ t % 32)).toNat : Int) = row32 m (t + 1) N := by
  unfold row32
  rw [d32_succ, List.reverse_append, List.reverse_singleton, List.singleton_append, List.map_cons]
  obtain ⟨q, hq⟩ : ∃ q, m - t = q + 1 := ⟨m - t - 1, by omega⟩
  rw [show m - t - 1 = q from by omega, show m - (t + 1) = q from by omega, hq, List.replicate_succ', List.append_assoc, List.set_append_right _ _ (by rw [List.length_replicate]; exact Nat.le_refl _)]
  simp
theorem bt_letter (v : Nat) : bt (⟨#[48, 49, 50, 51, 52, 53, 54, 55, 56, 57, 97, 98, 99, 100, 102, 103, 104, 105, 106, 107, 108, 109, 110, 112, 113, 114, 115, 118, 119, 120, 121, 122]⟩ : ByteArray) (v : Int) = ((lt32 v).toNat : Int) := by
  rw [bt_bs, Int.toNat_natCast]
  rfl
theorem nums_row (l : List UInt8) : strOfNums (l.map fun c => (c.toNat : Int)) = ⟨l.toArray⟩ := by
  unfold strOfNums
  rw [List.map_map]
  congr 1
  congr 1
  conv => rhs; rw [← List.map_id l]
  exact List.map_congr_left fun c _ => by simp
theorem inner (s : ByteArray) (n m N i : Nat) (R : ByteArray) (hN : N < 256 ^ (i + 1)) (hi : i < n) (hm : m = (8 * n + 4) / 5) (hn : n < 140737488351232) (q : Nat) : ∀ t r, 8 * (i + 1) = 5 * t + 5 * q + r → r < 5 → 8 * (i + 1) - 5 * t ≤ 12 →
    Ev (fun k => radix_Base32.l0 k s (row32 m (t + q) N) ((N / 32 ^ (t + q) : Nat) : Int) (r : Int) ((m - (t + q) : Nat) : Int) (n : Int) ((i + 1 : Nat) : Int)) R →
    Ev (fun k => radix_Base32.l1 k s (row32 m t N) ((N / 32 ^ t : Nat) : Int) ((8 * (i + 1) - 5 * t : Nat) : Int) ((m - t : Nat) : Int) (n : Int) (i : Int)) R := by
  induction q with
  | zero =>
    intro t r h hr h12 hk
    refine succ ?_
    simp only [radix_Base32.l1]
    refine neg (by omega) ?_
    rw [wr i (by omega), show 8 * (i + 1) - 5 * t = r from by omega]
    exact hk
  | succ q ih =>
    intro t r h hr h12 hk
    have hacc := acc32_lt t N (i + 1) (by omega) hN
    have hp : 2 ^ (8 * (i + 1) - 5 * t) ≤ 2 ^ 12 := Nat.pow_le_pow_right (by omega) h12
    have ea := and_31 (N / 32 ^ t) (by omega)
    refine succ ?_
    simp only [radix_Base32.l1]
    rw [ea]
    have ew : wrap64 (((m - t : Nat) : Int) - 1) = ((m - t - 1 : Nat) : Int) := by rw [w64 (by omega) (by omega)]; omega
    rw [ew]
    have hmod : N / 32 ^ t % 32 < 32 := Nat.mod_lt _ (by omega)
    refine pos (by omega) (pos (by omega) (pos (by omega) (pos (by omega) (pos (by rw [row32_len _ _ _ (by omega)]; omega) ?_))))
    rw [bt_letter, Int.toNat_natCast, row32_set m t N (by omega)]
    have ed : ((N / 32 ^ t : Nat) : Int) / 32 = ((N / 32 ^ (t + 1) : Nat) : Int) := by
      rw [Nat.pow_succ, ← Nat.div_div_eq_div_mul]
      omega
    have e5 : IntKind.u64.wrap (((8 * (i + 1) - 5 * t : Nat) : Int) - 5) = ((8 * (i + 1) - 5 * (t + 1) : Nat) : Int) := by
      rw [IntKind.wrap_u64]
      omega
    rw [ed, e5, show m - t - 1 = m - (t + 1) from by omega]
    refine ih (t + 1) r (by omega) hr (by omega) ?_
    rw [show t + 1 + q = t + (q + 1) from by omega]
    exact hk
theorem outer (s : ByteArray) (hs : (bs s).length < 140737488351232) (d : Nat) : ∀ i, i + d = (bs s).length →
    Ev (fun k => radix_Base32.l0 k s (row32 ((8 * (bs s).length + 4) / 5) (8 * i / 5) (numB ((bs s).take i))) ((numB ((bs s).take i) / 32 ^ (8 * i / 5) : Nat) : Int) ((8 * i - 5 * (8 * i / 5) : Nat) : Int) (((8 * (bs s).length + 4) / 5 - 8 * i / 5 : Nat) : Int) ((bs s).length : Int) (i : Int)) ⟨(enc (bs s)).toArray⟩ := by
  obtain ⟨n, hn⟩ : ∃ n, (bs s).length = n := ⟨_, rfl⟩
  obtain ⟨m, hm⟩ : ∃ m, (8 * n + 4) / 5 = m := ⟨_, rfl⟩
  have henc : enc (bs s) = (d32 m (numB (bs s))).reverse := by unfold enc; rw [hn, hm]
  rw [hn, hm]
  rw [hn] at hs
  induction d with
  | zero =>
    intro i hi
    obtain rfl : i = n := by omega
    rw [List.take_of_length_le (by omega), henc]
    generalize hN : numB (bs s) = N
    have hlt : N < 256 ^ i := by rw [← hN, ← hn]; exact numB_lt _
    refine succ ?_
    simp only [radix_Base32.l0]
    refine neg (by omega) ?_
    by_cases hh : 0 < 8 * i - 5 * (8 * i / 5)
    · refine pos (by omega) ?_
      have hacc := acc32_lt (8 * i / 5) N i (by omega) hlt
      have hp : 2 ^ (8 * i - 5 * (8 * i / 5)) ≤ 2 ^ 12 := Nat.pow_le_pow_right (by omega) (by omega)
      have ea := and_31 (N / 32 ^ (8 * i / 5)) (by omega)
      rw [ea]
      have ew : wrap64 (((m - 8 * i / 5 : Nat) : Int) - 1) = ((m - 8 * i / 5 - 1 : Nat) : Int) := by rw [w64 (by omega) (by omega)]; omega
      rw [ew]
      have hmod : N / 32 ^ (8 * i / 5) % 32 < 32 := Nat.mod_lt _ (by omega)
      refine pos (by omega) (pos (by omega) (pos (by omega) (pos (by rw [row32_len _ _ _ (by omega)]; omega) ?_)))
      rw [bt_letter, Int.toNat_natCast, row32_set m _ N (by omega)]
      refine now (congrArg some ?_)
      unfold row32
      rw [show 8 * i / 5 + 1 = m from by omega, Nat.sub_self, List.replicate_zero, List.nil_append]
      exact nums_row _
    · refine neg (by omega) ?_
      refine now (congrArg some ?_)
      unfold row32
      rw [show 8 * i / 5 = m from by omega, Nat.sub_self, List.replicate_zero, List.nil_append]
      exact nums_row _
  | succ d ih =>
    intro i hi
    have hil : i < (bs s).length := by omega
    have htake : (bs s).take (i + 1) = (bs s).take i ++ [(bs s)[i]] := List.take_succ_eq_append_getElem hil
    obtain ⟨M, hM⟩ : ∃ M, numB ((bs s).take i) = M := ⟨_, rfl⟩
    have hMlt : M < 256 ^ i := by
      have := numB_lt ((bs s).take i)
      rw [List.length_take, Nat.min_eq_left (by omega), hM] at this
      exact this
    obtain ⟨b, hb⟩ : ∃ b, ((bs s)[i]).toNat = b := ⟨_, rfl⟩
    have hb2 : b < 256 := by rw [← hb]; exact (bs s)[i].toNat_lt
    have hM' : numB ((bs s).take (i + 1)) = M + 256 ^ i * b := by
      rw [htake, numB_append, hM, List.length_take, Nat.min_eq_left (by omega)]
      simp [numB, hb]
    have hnext := ih (i + 1) (by omega)
    rw [hM'] at hnext
    rw [hM]
    obtain ⟨t, ht⟩ : ∃ t, 8 * i / 5 = t := ⟨_, rfl⟩
    rw [ht]
    have hacc := acc32_lt t M i (by omega) hMlt
    have hor := or_byte (M / 32 ^ t) b (8 * i - 5 * t) (by omega) hacc hb2
    rw [← acc32_more t M i b (by omega)] at hor
    have hrow : row32 m t M = row32 m t (M + 256 ^ i * b) := by unfold row32; rw [d32_more t M i b (by omega)]
    refine succ ?_
    simp only [radix_Base32.l0]
    refine pos (by omega) (pos (by omega) (pos (by rw [size_bs]; omega) (pos (by omega) ?_)))
    rw [bt_lt s i hil, hb, hor, hrow]
    have e8 : IntKind.u64.wrap (((8 * i - 5 * t : Nat) : Int) + 8) = ((8 * (i + 1) - 5 * t : Nat) : Int) := by
      rw [IntKind.wrap_u64]
      omega
    rw [e8]
    have hNlt : M + 256 ^ i * b < 256 ^ (i + 1) := by
      have := numB_lt ((bs s).take (i + 1))
      rw [List.length_take, Nat.min_eq_left (by omega), hM'] at this
      exact this
    refine inner s n m (M + 256 ^ i * b) i _ hNlt (by omega) hm.symm hs (8 * (i + 1) / 5 - t) t (8 * (i + 1) - 5 * (8 * (i + 1) / 5)) (by omega) (by omega) (by omega) ?_
    rw [show t + (8 * (i + 1) / 5 - t) = 8 * (i + 1) / 5 from by omega]
    exact hnext
/-- radix.Base32, any bytes. -/
theorem prog_enc (s : ByteArray) (hs : (bs s).length < 140737488351232) : Ev (fun k => radix_Base32.f k s) ⟨(enc (bs s)).toArray⟩ := by
  unfold radix_Base32.f
  have e : wrap64 (Int.tdiv (wrap64 (wrap64 (8 * (s.size : Int)) + 4)) 5) = (((8 * (bs s).length + 4) / 5 : Nat) : Int) := by
    rw [size_bs, w64 (x := 8 * _) (by omega) (by omega), w64 (x := _ + 4) (by omega) (by omega), Int.tdiv_eq_ediv_of_nonneg (by omega), w64 (by omega) (by omega)]
    omega
  rw [e, Int.toNat_natCast]
  refine pos (by omega) (pos (by omega) ?_)
  have h := outer s hs (bs s).length 0 (by omega)
  have e0 : row32 ((8 * (bs s).length + 4) / 5) 0 0 = List.replicate ((8 * (bs s).length + 4) / 5) 0 := by simp [row32, d32]
  rw [show 8 * 0 / 5 = 0 from rfl, List.take_zero, show numB [] = 0 from rfl, e0, show 0 / 32 ^ 0 = 0 from rfl, show 8 * 0 - 5 * 0 = 0 from rfl, Nat.sub_zero] at h
  rw [size_bs]
  exact h
theorem enc_len (l : List UInt8) : (enc l).length = (8 * l.length + 4) / 5 := by rw [enc, List.length_reverse, d32_len]
theorem lt32_val : ∀ v, v < 32 → 0 ≤ val (lt32 v) := by decide +kernel
theorem enc_val (l : List UInt8) : ∀ c ∈ enc l, 0 ≤ val c := by
  intro c hc
  rw [enc, List.mem_reverse, d32, List.mem_map] at hc
  obtain ⟨j, _, rfl⟩ := hc
  exact lt32_val _ (Nat.mod_lt _ (by omega))
end Go.Proofs.YtglhbbijoeeclaaDoor.B32
/- spath.Make at any arguments: its answer hangs on them alone. -/
namespace Go.Proofs.YtglhbbijoeeclaaDoor.TextTrue
open Go.RowKit Go.Proofs.YtglhbbijoeeclaaDoor.Q Go.Proofs.YtglhbbijoeeclaaDoor.Bytes Go.Proofs.YtglhbbijoeeclaaDoor.Sha Go.Proofs.YtglhbbijoeeclaaDoor.Refs Go.Proofs.YtglhbbijoeeclaaDoor.SpathPure Go.Proofs.YtglhbbijoeeclaaDoor.TextPure Go.Proofs.YtglhbbijoeeclaaDoorW.PrintWords Go.Proofs.YtglhbbijoeeclaaDoorW.PrintLast Go.Proofs.YtglhbbijoeeclaaDoorW.PrintMore
set_option linter.unusedVariables false
set_option linter.unusedSimpArgs false
/-- Make's contract with its answer. -/
def MakeGives (refs : List ByteArray) (d : List UInt8) (label p : ByteArray) (e1 : Int) : Prop :=
  ∀ W, Glob W → ∀ (A : Option Addr) (c : Nat), Kd.C Kd.string W A refs.length refs → refs.length ≤ c →
    Calls Tryd.prog 8 #[.slice A refs.length c, .agg (d.map bcell).toArray, .string label] W fun e w' => e = .returned (.tuple #[.string p, .int .i64 e1]) ∧ Below W.heap.size W w'
/-- What Make answers where it makes a path: the text's digest, folded, in letters. -/
def MadeAs (refs : List ByteArray) (d : List UInt8) (label p : ByteArray) : Prop :=
  ∃ hxs b32 : ByteArray, (∃ kh, radix_Hex.f kh ⟨d.toArray⟩ = some hxs) ∧ hxs.size ≤ 64 ∧ b32 = ⟨(B32.enc (fold (of (bs (textTo refs refs.length ++ shaC ++ hxs ++ dirC ++ label))) 20)).toArray⟩ ∧ b32.size = 32 ∧ p = dirS ++ b32 ++ dashS ++ label
set_option maxHeartbeats 1000000 in
theorem make_all (refs : List ByteArray) (d : List UInt8) (hd : d.length = 32) (label : ByteArray) (hsz : ∀ x ∈ refs, x.size ≤ 140737488351232) :
    ∃ p e1, MakeGives refs d label p e1 ∧ ((e1 ≠ 0 ∧ p = ⟨#[]⟩ ∧ (labelNo (bs label) = e1 ∨ labelNo (bs label) = 0 ∧ refsNo refs = e1)) ∨ (e1 = 0 ∧ labelNo (bs label) = 0 ∧ refsNo refs = 0 ∧ MadeAs refs d label p)) := by
  have h1 : spath_CheckLabel.f label = some (labelNo (bs label)) := rfl
  by_cases e1 : labelNo (bs label) = 0
  · rw [e1] at h1
    obtain ⟨kr, hkr⟩ := prog_refs refs hsz
    have h2 := hkr kr (Nat.le_refl _)
    by_cases e2 : refsNo refs = 0
    · rw [e2] at h2
      obtain ⟨hlen, hsm⟩ := refs_small refs e2
      have hll := label_len e1
      rw [← size_bs] at hll
      have hds : (⟨d.toArray⟩ : ByteArray).size = 32 := by show d.length = 32; exact hd
      obtain ⟨hxs, hxl, h3⟩ := HexPure.hex_some ⟨d.toArray⟩ (by rw [hds]; decide)
      rw [hds] at hxl
      have hts := text_size refs hsm
      have hj := text_join refs hxs label
      have hn := hts refs.length
      have hsize : (textTo refs refs.length ++ shaC ++ hxs ++ dirC ++ label).size ≤ 1000000 := by
        rw [size_bs, bs_append, bs_append, bs_append, bs_append, List.length_append, List.length_append, List.length_append, List.length_append, ← size_bs, ← size_bs, ← size_bs, ← size_bs, ← size_bs]
        have q1 : shaC.size = 8 := rfl
        have q2 : dirC.size = 15 := rfl
        omega
      have h4 : strings_Join.f ([treeS] ++ refs ++ [shaS, hxs, dirS, label]) colonS = some (textTo refs refs.length ++ shaC ++ hxs ++ dirC ++ label) := by
        unfold strings_Join.f
        rw [← hj, if_pos ⟨by simp; omega, by rw [← size_bs]; omega⟩]
        exact congrArg some (bs_inj (bs_mk _))
      have hto : ∃ txt, textTo refs refs.length ++ shaC ++ hxs ++ dirC ++ label = txt := ⟨_, rfl⟩
      obtain ⟨txt, hgt⟩ := hto
      obtain ⟨kb, hkb⟩ := B32.prog_enc ⟨(fold (of txt.data.toList) 20).toArray⟩ (by rw [bs_mk, fold, List.length_take, foldTo_len]; decide)
      have h5 := hkb kb (Nat.le_refl _)
      rw [bs_mk] at h5
      have hbl : (⟨(B32.enc (fold (of txt.data.toList) 20)).toArray⟩ : ByteArray).size = 32 := by
        rw [size_bs, bs_mk, B32.enc_len, fold, List.length_take, foldTo_len]
        decide
      rw [hgt] at h4 hsize
      refine ⟨dirS ++ ⟨(B32.enc (fold (of txt.data.toList) 20)).toArray⟩ ++ dashS ++ label, 0, ?_, .inr ⟨rfl, e1, e2, hxs, _, ⟨_, h3⟩, by omega, by rw [hgt]; rfl, hbl, rfl⟩⟩
      intro W hG A c hr hc
      exact make_good pad_calls W hG A c refs d hd label hxs txt _ kr _ kb hr hc hlen h1 h2 h3 h4 (by omega) h5 (by omega) (by omega)
    · exact ⟨⟨#[]⟩, refsNo refs, fun W _ A c hr hc => make_refs W A c refs d label _ kr hr hc h1 h2 e2, .inl ⟨e2, rfl, .inr ⟨e1, rfl⟩⟩⟩
  · exact ⟨⟨#[]⟩, labelNo (bs label), fun W _ A c hr hc => make_label W A _ c d label _ h1 e1, .inl ⟨e1, rfl, .inl rfl⟩⟩
end Go.Proofs.YtglhbbijoeeclaaDoor.TextTrue
/- The document's SHA-256: turn, step. -/
namespace Go.Proofs.YtglhbbijoeeclaaDoor.Sha
open Go.RowKit Go.Proofs.YtglhbbijoeeclaaDoorW.PrintWords Go.Proofs.YtglhbbijoeeclaaDoorW.PrintLast Go.Proofs.YtglhbbijoeeclaaDoorW.PrintMore Go.Proofs.YtglhbbijoeeclaaDoor.Bytes
set_option linter.unusedVariables false
set_option linter.unusedSimpArgs false
/-- A word twice, turned: its low half. -/
theorem twice_turn (x : B32) (n : Nat) (h0 : 0 < n) (hn : n < 32) : (((x.setWidth 64 <<< 32 ||| x.setWidth 64) >>> n).setWidth 32 : B32) = rotr x n := by
  unfold rotr
  apply BitVec.eq_of_getLsbD_eq
  intro i hi
  simp only [BitVec.getLsbD_setWidth, BitVec.getLsbD_ushiftRight, BitVec.getLsbD_or, BitVec.getLsbD_shiftLeft]
  have e1 : decide (i < 32) = true := decide_eq_true hi
  have e2 : decide (n + i < 64) = true := decide_eq_true (by omega)
  have e3 : decide (n + i - 32 < 64) = true := decide_eq_true (by omega)
  rw [e1, e2, e3]
  by_cases h : n + i < 32
  · have e4 : decide (n + i < 32) = true := decide_eq_true h
    have e5 : decide (i < 32 - n) = true := decide_eq_true (by omega)
    rw [e4, e5]
    simp
  · have e4 : decide (n + i < 32) = false := decide_eq_false h
    have e5 : decide (i < 32 - n) = false := decide_eq_false (by omega)
    have e6 : x.getLsbD (n + i) = false := BitVec.getLsbD_of_ge _ _ (by omega)
    rw [e4, e5, e6, show i - (32 - n) = n + i - 32 from by omega]
    simp
theorem twice_nat (X : Nat) (hX : X < 4294967296) : (X * 4294967296 % 18446744073709551616) ||| X = X * 4294967296 + X := by
  rw [Nat.mod_eq_of_lt (by omega)]
  have := Nat.two_pow_add_eq_or_of_lt (i := 32) (b := X) (by omega) X
  rw [Nat.mul_comm X 4294967296, show (4294967296 : Nat) = 2 ^ 32 from rfl, this]
/-- turn, in numbers. -/
theorem turn_nat (x : B32) (n : Nat) (h0 : 0 < n) (hn : n < 32) : (U x * 4294967296 + U x) / 2 ^ n % 4294967296 = U (rotr x n) := by
  rw [← twice_turn x n h0 hn]
  unfold U
  rw [BitVec.toNat_setWidth, BitVec.toNat_ushiftRight, BitVec.toNat_or, BitVec.toNat_shiftLeft, BitVec.toNat_setWidth, Nat.shiftLeft_eq, Nat.shiftRight_eq_div_pow]
  have hx := x.isLt
  rw [Nat.mod_eq_of_lt (show x.toNat < 2 ^ 64 by omega)]
  have := twice_nat x.toNat hx
  rw [show (2 : Nat) ^ 32 = 4294967296 from rfl, show (2 : Nat) ^ 64 = 18446744073709551616 from rfl, this]
  rw [Int.natCast_emod, Int.natCast_ediv, Int.natCast_add, Int.natCast_mul, Int.natCast_pow]
  rfl
theorem or_twice (x : B32) : bits .or .u64 (U x * 4294967296) (U x) = U x * 4294967296 + U x := by
  unfold U
  have hx := x.isLt
  have e : ((x.toNat : Int) * 4294967296) = ((x.toNat * 4294967296 : Nat) : Int) := by rw [Int.natCast_mul]; rfl
  rw [e, u64_or_nat _ _ (by omega) (by omega)]
  have := twice_nat x.toNat hx
  rw [Nat.mod_eq_of_lt (by omega)] at this
  rw [this, Int.natCast_add]
attribute [local go_sem] U_xor U_and U_or U_add U_add' U_not u32_signed u32_max or_twice
set_option maxRecDepth 100000 in
set_option maxHeartbeats 2000000 in
theorem turn_calls (x : B32) (n : Nat) (h0 : 0 < n) (hn : n < 32) (w : World) : Calls Tryd.prog 65 #[.int .u32 (U x), .int .u64 (n : Int)] w fun e w' => e = .returned (.int .u32 (U (rotr x n))) ∧ w' = w := by
  have p1 : 0 ≤ (n : Int) := by omega
  have p2 : (n : Int) ≤ 64 := by omega
  have hU := U_lt x
  have hw : IntKind.u64.wrap (U x) = U x := by rw [IntKind.wrap_u64]; omega
  have hw2 : IntKind.u64.wrap (U x * 4294967296) = U x * 4294967296 := by rw [IntKind.wrap_u64]; omega
  have hm : U x * 4294967296 % 18446744073709551616 = U x * 4294967296 := by omega
  have hm2 : U x % 18446744073709551616 = U x := by omega
  go_enter Tryd.func65, Tryd.ntmps65
  go_wp2
  go_ret
  exact ⟨by rw [turn_nat x n h0 hn]; rfl, rfl⟩
/-- A round, the constant and the word together. -/
def stepV (v : V8) (x : B32) : V8 :=
  let choose := (v.e &&& v.f) ||| (~~~v.e &&& v.g)
  let most := (v.a &&& v.b) ||| (v.a &&& v.c) ||| (v.b &&& v.c)
  let one := v.k + (rotr v.e 6 ^^^ rotr v.e 11 ^^^ rotr v.e 25) + choose + x
  let two := (rotr v.a 2 ^^^ rotr v.a 13 ^^^ rotr v.a 22) + most
  ⟨one + two, v.a, v.b, v.c, v.d + one, v.e, v.f, v.g⟩
theorem choose_eq (e f g : B32) : (e &&& f) ||| (~~~e &&& g) = e &&& f ^^^ (~~~e &&& g) := by
  apply BitVec.eq_of_getLsbD_eq
  intro i hi
  simp only [BitVec.getLsbD_or, BitVec.getLsbD_and, BitVec.getLsbD_xor, BitVec.getLsbD_not, decide_eq_true hi]
  cases e.getLsbD i <;> cases f.getLsbD i <;> cases g.getLsbD i <;> rfl
theorem most_eq (a b c : B32) : (a &&& b) ||| (a &&& c) ||| (b &&& c) = a &&& b ^^^ a &&& c ^^^ b &&& c := by
  apply BitVec.eq_of_getLsbD_eq
  intro i hi
  simp only [BitVec.getLsbD_or, BitVec.getLsbD_and, BitVec.getLsbD_xor]
  cases a.getLsbD i <;> cases b.getLsbD i <;> cases c.getLsbD i <;> rfl
theorem step_round (v : V8) (c w : B32) : stepV v (c + w) = round v c w := by
  unfold stepV round
  simp only [choose_eq, most_eq, BitVec.add_assoc]
theorem size_alloc (w : World) (o : Obj) : (w.alloc o).heap.size = w.heap.size + 1 := by simp [World.alloc, -World.alloc_eq]
/-- A row of 8 words in a block of its own. -/
theorem cells8 {W : World} {h : Nat} {v : V8} {t : TypeId} (hb : W.heap[h]? = some (.cells v.cells t (0, 0))) : (W.cell? ⟨h, 0, none⟩ = some (.int .u32 (U v.a)) ∧ W.cell? ⟨h, 1, none⟩ = some (.int .u32 (U v.b)) ∧ W.cell? ⟨h, 2, none⟩ = some (.int .u32 (U v.c)) ∧ W.cell? ⟨h, 3, none⟩ = some (.int .u32 (U v.d))) ∧ (W.cell? ⟨h, 4, none⟩ = some (.int .u32 (U v.e)) ∧ W.cell? ⟨h, 5, none⟩ = some (.int .u32 (U v.f)) ∧ W.cell? ⟨h, 6, none⟩ = some (.int .u32 (U v.g)) ∧ W.cell? ⟨h, 7, none⟩ = some (.int .u32 (U v.k))) := by
  refine ⟨⟨?_, ?_, ?_, ?_⟩, ?_, ?_, ?_, ?_⟩ <;> simp [World.cell?, hb, V8.cells, wcell]
theorem fro_of {W : World} {h : Nat} {cs : Array Value} {t : TypeId} (hb : W.heap[h]? = some (.cells cs t (0, 0))) (i : Nat) : W.frozen? ⟨h, i, none⟩ = false := by simp [World.frozen?, hb]
set_option maxRecDepth 100000 in
set_option maxHeartbeats 4000000 in
theorem step_calls (v : V8) (x : B32) (w : World) : Calls Tryd.prog 54 #[.agg v.cells, .int .u32 (U x)] w fun e w' => e = .returned (.agg (stepV v x).cells) ∧ Below w.heap.size w w' := by
  have RT := Aside0.mk (fun (n : Nat) (h0 : 0 < n) (h1 : n < 32) (x : B32) (W : World) => turn_calls x n h0 h1 W)
  have R6 : Aside0 (∀ x W, Calls Tryd.prog 65 #[.int .u32 (U x), .int .u64 6] W fun e w' => e = .returned (.int .u32 (U (rotr x 6))) ∧ w' = W) := ⟨RT.out 6 (by decide) (by decide)⟩
  have R11 : Aside0 (∀ x W, Calls Tryd.prog 65 #[.int .u32 (U x), .int .u64 11] W fun e w' => e = .returned (.int .u32 (U (rotr x 11))) ∧ w' = W) := ⟨RT.out 11 (by decide) (by decide)⟩
  have R25 : Aside0 (∀ x W, Calls Tryd.prog 65 #[.int .u32 (U x), .int .u64 25] W fun e w' => e = .returned (.int .u32 (U (rotr x 25))) ∧ w' = W) := ⟨RT.out 25 (by decide) (by decide)⟩
  have R2 : Aside0 (∀ x W, Calls Tryd.prog 65 #[.int .u32 (U x), .int .u64 2] W fun e w' => e = .returned (.int .u32 (U (rotr x 2))) ∧ w' = W) := ⟨RT.out 2 (by decide) (by decide)⟩
  have R13 : Aside0 (∀ x W, Calls Tryd.prog 65 #[.int .u32 (U x), .int .u64 13] W fun e w' => e = .returned (.int .u32 (U (rotr x 13))) ∧ w' = W) := ⟨RT.out 13 (by decide) (by decide)⟩
  have R22 : Aside0 (∀ x W, Calls Tryd.prog 65 #[.int .u32 (U x), .int .u64 22] W fun e w' => e = .returned (.int .u32 (U (rotr x 22))) ∧ w' = W) := ⟨RT.out 22 (by decide) (by decide)⟩
  clear RT
  obtain ⟨W2, hW2⟩ : ∃ W2, (w.alloc (.cells v.cells 70)).alloc (.cells (V8.cells ⟨0, 0, 0, 0, 0, 0, 0, 0⟩) 70) = W2 := ⟨_, rfl⟩
  have HB2 : Aside0 (Below w.heap.size w W2) := ⟨by rw [← hW2]; exact ((Below.refl _ w).alloc (Nat.le_refl _) _).alloc (by rw [size_alloc]; omega) _⟩
  have HX0 : Aside0 (W2.heap[w.heap.size]? = some (.cells v.cells 70 (0, 0))) := ⟨by
    rw [← hW2, ((Below.refl (w.alloc (.cells v.cells 70)).heap.size _).alloc (Nat.le_refl _) _).block _ (by rw [size_alloc]; omega)]
    exact World.alloc_heap_new w _⟩
  have HX1 : Aside0 (W2.heap[w.heap.size + 1]? = some (.cells (V8.cells ⟨0, 0, 0, 0, 0, 0, 0, 0⟩) 70 (0, 0))) := ⟨by
    rw [← hW2]
    have := World.alloc_heap_new (w.alloc (.cells v.cells 70)) (.cells (V8.cells ⟨0, 0, 0, 0, 0, 0, 0, 0⟩) 70)
    rw [size_alloc] at this
    exact this⟩
  go_enter Tryd.func54, Tryd.ntmps54
  go_upto_region 1 with fail
  change Code.wp _ _ _ _ ((w.alloc (.cells v.cells 70)).alloc (.cells (V8.cells ⟨0, 0, 0, 0, 0, 0, 0, 0⟩) 70))
  rw [hW2]
  clear hW2
  obtain ⟨⟨k0, k1, k2, k3⟩, k4, k5, k6, k7⟩ := cells8 HX0.out
  obtain ⟨⟨q0, q1, q2, q3⟩, q4, q5, q6, q7⟩ := cells8 HX1.out
  have rf := fro_of HX1.out
  have hu70 := Tryd.underlying70
  go_wp2
  go_quiet (first | (go_at_call 65; ((with_reducible refine (R6.out _ _).mono ?_)); rintro e w2 ⟨rfl, hw⟩; exact ⟨rfl, _, hw⟩) | (go_at_call 65; ((with_reducible refine (R11.out _ _).mono ?_)); rintro e w2 ⟨rfl, hw⟩; exact ⟨rfl, _, hw⟩) | (go_at_call 65; ((with_reducible refine (R25.out _ _).mono ?_)); rintro e w2 ⟨rfl, hw⟩; exact ⟨rfl, _, hw⟩))
  go_wp2
  go_quiet (first | (go_at_call 65; ((with_reducible refine (R2.out _ _).mono ?_)); rintro e w2 ⟨rfl, hw⟩; exact ⟨rfl, _, hw⟩) | (go_at_call 65; ((with_reducible refine (R13.out _ _).mono ?_)); rintro e w2 ⟨rfl, hw⟩; exact ⟨rfl, _, hw⟩) | (go_at_call 65; ((with_reducible refine (R22.out _ _).mono ?_)); rintro e w2 ⟨rfl, hw⟩; exact ⟨rfl, _, hw⟩))
  go_wp2
  refine bodyPost_ret (v := .agg (stepV v x).cells) (results_cell_row rfl _ _ (w.heap.size + 1) 70 (stepV v x).cells (0, 0) _ rfl ?_ Tryd.underlying70 rfl (by kernel_rfl)) rfl ⟨rfl, ?_⟩
  · simp [World.setCell, Array.getElem?_modify, HX1.out, V8.cells, wcell, stepV]
  · exact below_set (below_set (below_set (below_set (below_set (below_set (below_set (below_set (pw_below_drewN HB2.out _) _ _ (by simp)) _ _ (by simp)) _ _ (by simp)) _ _ (by simp)) _ _ (by simp)) _ _ (by simp)) _ _ (by simp)) _ _ (by simp)
set_option maxRecDepth 100000 in
set_option maxHeartbeats 4000000 in
theorem start_calls (w : World) : Calls Tryd.prog 39 #[] w fun e w' => e = .returned (.agg H0.cells) ∧ Below w.heap.size w w' := by
  have hu70 := Tryd.underlying70
  obtain ⟨W1, hW1⟩ : ∃ W1, w.alloc (.cells (V8.cells ⟨0, 0, 0, 0, 0, 0, 0, 0⟩) 70) = W1 := ⟨_, rfl⟩
  have HB1 : Aside0 (Below w.heap.size w W1) := ⟨by rw [← hW1]; exact (Below.refl _ w).alloc (Nat.le_refl _) _⟩
  have HX1 : Aside0 (W1.heap[w.heap.size]? = some (.cells (V8.cells ⟨0, 0, 0, 0, 0, 0, 0, 0⟩) 70 (0, 0))) := ⟨by rw [← hW1]; exact World.alloc_heap_new w _⟩
  go_enter Tryd.func39, Tryd.ntmps39
  go_upto_region 1 with fail
  change Code.wp _ _ _ _ (w.alloc (.cells (V8.cells ⟨0, 0, 0, 0, 0, 0, 0, 0⟩) 70))
  rw [hW1]
  clear hW1
  obtain ⟨⟨q0, q1, q2, q3⟩, q4, q5, q6, q7⟩ := cells8 HX1.out
  have rf := fro_of HX1.out
  go_wp2
  refine bodyPost_ret (v := .agg H0.cells) (results_cell_row rfl _ _ w.heap.size 70 H0.cells (0, 0) _ rfl ?_ Tryd.underlying70 rfl (by kernel_rfl)) rfl ⟨rfl, ?_⟩
  · simp [World.setCell, Array.getElem?_modify, HX1.out, V8.cells, wcell, H0, U]
  · exact below_set (below_set (below_set (below_set (below_set (below_set (below_set (below_set HB1.out _ _ (by simp)) _ _ (by simp)) _ _ (by simp)) _ _ (by simp)) _ _ (by simp)) _ _ (by simp)) _ _ (by simp)) _ _ (by simp)
set_option maxRecDepth 100000 in
set_option maxHeartbeats 4000000 in
theorem constants_calls (w : World) : Calls Tryd.prog 53 #[] w fun e w' => e = .returned (.agg (warr K)) ∧ Below w.heap.size w w' := by
  have hu85 := Tryd.underlying85
  obtain ⟨W1, hW1⟩ : ∃ W1, w.alloc (.cells (warr (List.replicate 64 0)) 85) = W1 := ⟨_, rfl⟩
  have HB1 : Aside0 (Below w.heap.size w W1) := ⟨by rw [← hW1]; exact (Below.refl _ w).alloc (Nat.le_refl _) _⟩
  have HX1 : Aside0 (W1.heap[w.heap.size]? = some (.cells (warr (List.replicate 64 0)) 85 (0, 0))) := ⟨by rw [← hW1]; exact World.alloc_heap_new w _⟩
  go_enter Tryd.func53, Tryd.ntmps53
  go_upto_region 1 with fail
  change Code.wp _ _ _ _ (w.alloc (.cells (warr (List.replicate 64 0)) 85))
  rw [hW1]
  clear hW1
  go_wp2_with (first
    | ((with_reducible refine gate_store (t := 85) (p := 0) rfl ?_); refine wpList_store_row' rfl 85 (.tmp 0) (.tmp 1) rfl w.heap.size 85 (warr (List.replicate 64 0)) (warr K) rfl (by kernel_rfl) HX1.out (by kernel_rfl) (by kernel_rfl) (by kernel_rfl) ?_; intro w9 hw9; have HX9 : Aside0 (w9.heap[w.heap.size]? = some (.cells (warr K) 85 (0, 0))) := ⟨by rw [hw9]; exact setRow_heap _ _ _ _ _ _ HX1.out⟩; have HB9 : Aside0 (Below w.heap.size w w9) := ⟨by rw [hw9]; exact below_setRow HB1.out (Nat.le_refl _) _⟩; clear hw9))
  exact bodyPost_ret (v := .agg (warr K)) (results_cell_row rfl _ _ w.heap.size 85 (warr K) (0, 0) _ rfl HX9.out Tryd.underlying85 rfl (by kernel_rfl)) rfl ⟨rfl, HB9.out⟩
end Go.Proofs.YtglhbbijoeeclaaDoor.Sha
/- The document's SHA-256: a block's schedule. -/
namespace Go.Proofs.YtglhbbijoeeclaaDoor.Sha
open Go.RowKit Go.Proofs.YtglhbbijoeeclaaDoorW.PrintWords Go.Proofs.YtglhbbijoeeclaaDoorW.PrintLast Go.Proofs.YtglhbbijoeeclaaDoorW.PrintMore Go.Proofs.YtglhbbijoeeclaaDoor.Bytes
set_option linter.unusedVariables false
set_option linter.unusedSimpArgs false
/-- A word, byte by byte. -/
def pv (b : List UInt8) (i : Nat) : Nat → B32
  | 0 => 0
  | j + 1 => pv b i j <<< (8 : Nat) + BitVec.ofNat 32 (b.getD (4 * i + j) 0).toNat
theorem shl_add (x : B32) (c : UInt8) (n : Nat) (h : x.toNat < n) (hn : n * 256 ≤ 4294967296) : (x <<< (8 : Nat) + BitVec.ofNat 32 c.toNat).toNat = x.toNat * 256 + c.toNat := by
  have hc := c.toNat_lt
  rw [BitVec.toNat_add, BitVec.toNat_shiftLeft, Nat.shiftLeft_eq, BitVec.toNat_ofNat]
  have : x.toNat * 2 ^ 8 = x.toNat * 256 := rfl
  rw [this, Nat.mod_eq_of_lt (a := x.toNat * 256) (by omega), Nat.mod_eq_of_lt (a := c.toNat) (by omega), Nat.mod_eq_of_lt (by omega)]
theorem be_nat (a b c d : UInt8) : (be a b c d).toNat = ((a.toNat * 256 + b.toNat) * 256 + c.toNat) * 256 + d.toNat := by
  have ha := a.toNat_lt
  have hb := b.toNat_lt
  have hc := c.toNat_lt
  have hd := d.toNat_lt
  unfold be
  simp only [BitVec.toNat_or, BitVec.toNat_shiftLeft, BitVec.toNat_ofNat, Nat.shiftLeft_eq]
  rw [Nat.mod_eq_of_lt (a := a.toNat) (by omega), Nat.mod_eq_of_lt (a := b.toNat) (by omega), Nat.mod_eq_of_lt (a := c.toNat) (by omega), Nat.mod_eq_of_lt (a := d.toNat) (by omega), Nat.mod_eq_of_lt (a := a.toNat * 2 ^ 24) (by omega), Nat.mod_eq_of_lt (a := b.toNat * 2 ^ 16) (by omega), Nat.mod_eq_of_lt (a := c.toNat * 2 ^ 8) (by omega)]
  have e1 := Nat.two_pow_add_eq_or_of_lt (i := 24) (b := b.toNat * 2 ^ 16) (by omega) a.toNat
  have e2 := Nat.two_pow_add_eq_or_of_lt (i := 16) (b := c.toNat * 2 ^ 8) (by omega) (a.toNat * 2 ^ 8 + b.toNat)
  have e3 := Nat.two_pow_add_eq_or_of_lt (i := 8) (b := d.toNat) (by omega) ((a.toNat * 2 ^ 8 + b.toNat) * 2 ^ 8 + c.toNat)
  rw [Nat.mul_comm a.toNat (2 ^ 24), ← e1, show 2 ^ 24 * a.toNat + b.toNat * 2 ^ 16 = 2 ^ 16 * (a.toNat * 2 ^ 8 + b.toNat) from by omega, ← e2, show 2 ^ 16 * (a.toNat * 2 ^ 8 + b.toNat) + c.toNat * 2 ^ 8 = 2 ^ 8 * ((a.toNat * 2 ^ 8 + b.toNat) * 2 ^ 8 + c.toNat) from by omega, ← e3]
  omega
theorem pv4 (b : List UInt8) (i : Nat) : pv b i 4 = wordAt b i := by
  apply BitVec.eq_of_toNat_eq
  unfold wordAt
  rw [be_nat]
  have h0 := (b.getD (4 * i) 0).toNat_lt
  have h1 := (b.getD (4 * i + 1) 0).toNat_lt
  have h2 := (b.getD (4 * i + 2) 0).toNat_lt
  have h3 := (b.getD (4 * i + 3) 0).toNat_lt
  have s0 : (pv b i 0).toNat = 0 := rfl
  have s1 : (pv b i 1).toNat = (b.getD (4 * i) 0).toNat := by
    have := shl_add (pv b i 0) (b.getD (4 * i + 0) 0) 1 (by rw [s0]; omega) (by omega)
    rw [s0] at this
    rw [pv, this]
    simp
  have s2 : (pv b i 2).toNat = (b.getD (4 * i) 0).toNat * 256 + (b.getD (4 * i + 1) 0).toNat := by
    have := shl_add (pv b i 1) (b.getD (4 * i + 1) 0) 256 (by rw [s1]; omega) (by omega)
    rw [s1] at this
    rw [pv, this]
  have s3 : (pv b i 3).toNat = ((b.getD (4 * i) 0).toNat * 256 + (b.getD (4 * i + 1) 0).toNat) * 256 + (b.getD (4 * i + 2) 0).toNat := by
    have := shl_add (pv b i 2) (b.getD (4 * i + 2) 0) 65536 (by rw [s2]; omega) (by omega)
    rw [s2] at this
    rw [pv, this]
  have := shl_add (pv b i 3) (b.getD (4 * i + 3) 0) 16777216 (by rw [s3]; omega) (by omega)
  rw [s3] at this
  rw [pv, this]
/-- words' boxes: the bytes, the answer, the schedule. -/
structure Wk (h : Nat) (w W : World) (b : List UInt8) (ws : List B32) : Prop where
  bb : W.heap[h]? = some (.cells (barr b) 53 (0, 0))
  rb : W.heap[h + 1]? = some (.cells (warr (List.replicate 64 0)) 85 (0, 0))
  wb : W.heap[h + 1 + 1]? = some (.cells (warr ws) 85 (0, 0))
  below : Below h w W
section
variable {h : Nat} {w W W2 : World} {b : List UInt8} {ws : List B32}
theorem Wk.start (w : World) (b : List UInt8) : Wk w.heap.size w (((w.alloc (.cells (barr b) 53)).alloc (.cells (warr (List.replicate 64 0)) 85)).alloc (.cells (warr (List.replicate 64 0)) 85)) b (List.replicate 64 0) := by
  have a1 : ∀ (W : World) (o : Obj), (W.alloc o).heap.size = W.heap.size + 1 := fun W o => Array.size_push _
  have a2 : ∀ (W : World) (o : Obj) (k : Nat), k < W.heap.size → (W.alloc o).heap[k]? = W.heap[k]? := fun W o k hk => ((Below.refl W.heap.size W).alloc (Nat.le_refl _) o).block k hk
  have a3 : ∀ (W : World) (o : Obj) (k : Nat), k = W.heap.size → (W.alloc o).heap[k]? = some o := fun W o k hk => by rw [hk]; exact World.alloc_heap_new W o
  refine ⟨?_, ?_, ?_, ?_⟩
  · rw [a2 _ _ _ (by simp only [a1]; omega), a2 _ _ _ (by simp only [a1]; omega), a3 _ _ _ rfl]
  · rw [a2 _ _ _ (by simp only [a1]; omega), a3 _ _ _ (by simp only [a1])]
  · rw [a3 _ _ _ (by simp only [a1])]
  · exact (((Below.refl _ w).alloc (Nat.le_refl _) _).alloc (by simp only [a1]; omega) _).alloc (by simp only [a1]; omega) _
theorem Wk.lt (k : Wk h w W b ws) : h + 1 + 1 < W.heap.size := (Array.getElem?_eq_some_iff.1 k.wb).1
theorem Wk.keep (k : Wk h w W b ws) (hb : Below W.heap.size W W2) : Wk h w W2 b ws := by
  have z := k.lt
  exact ⟨(hb.block _ (by omega)).trans k.bb, (hb.block _ (by omega)).trans k.rb, (hb.block _ (by omega)).trans k.wb, k.below.trans (hb.mono (by omega))⟩
theorem Wk.byte (k : Wk h w W b ws) (i : Nat) (hi : i < b.length) : W.cell? ⟨h, i, none⟩ = some (.int .u8 (B (b.getD i 0))) := by
  simp [World.cell?, k.bb, barr, List.getElem?_map, List.getElem?_eq_getElem hi, List.getD_eq_getElem?_getD, bcell]
theorem Wk.word (k : Wk h w W b ws) (i : Nat) (hi : i < ws.length) : W.cell? ⟨h + 1 + 1, i, none⟩ = some (.int .u32 (U (ws.getD i 0))) := by
  simp [World.cell?, k.wb, warr, List.getElem?_map, List.getElem?_eq_getElem hi, List.getD_eq_getElem?_getD, wcell]
theorem Wk.fro (k : Wk h w W b ws) (i : Nat) : W.frozen? ⟨h + 1 + 1, i, none⟩ = false := by simp [World.frozen?, k.wb]
theorem Wk.set (k : Wk h w W b ws) (i : Nat) (x : B32) : Wk h w (W.setCell ⟨h + 1 + 1, i, none⟩ (.int .u32 (U x))) b (ws.set i x) := by
  refine ⟨(Below.heap_setCell _ _ _ _ (by show h ≠ h + 1 + 1; omega)).trans k.bb, (Below.heap_setCell _ _ _ _ (by show h + 1 ≠ h + 1 + 1; omega)).trans k.rb, ?_, ?_⟩
  · have := k.wb
    simp [World.setCell, Array.getElem?_modify, this, warr, List.map_set, wcell]
  · exact k.below.trans ⟨rfl, rfl, rfl, (KeepsWalks.setCell W _ _).size, fun i hi => Below.heap_setCell _ _ _ i (by show i ≠ h + 1 + 1; omega)⟩
end
theorem filled_nil : filled [] = List.replicate 64 0 := rfl
/-- The schedule, the word at work put in. -/
def inWork (b : List UInt8) (i j : Nat) : List B32 := (filled (first b i)).set i (pv b i j)
theorem inWork_len (b : List UInt8) (i j : Nat) (hi : i ≤ 64) : (inWork b i j).length = 64 := by
  rw [inWork, List.length_set, filled_len _ (by rw [first_len]; exact hi)]
theorem inWork_zero (b : List UInt8) (i : Nat) (hi : i < 64) : inWork b i 0 = filled (first b i) := by
  unfold inWork pv
  have hl := first_len b i
  apply List.ext_getElem?
  intro k
  rw [List.getElem?_set]
  split
  · rename_i h
    subst h
    rw [if_pos (by rw [filled_len _ (by omega)]; exact hi)]
    unfold filled
    rw [List.getElem?_append_right (by omega), List.getElem?_replicate, if_pos (by omega)]
  · rfl
theorem inWork_get (b : List UInt8) (i j : Nat) (hi : i < 64) : (inWork b i j).getD i 0 = pv b i j := by
  unfold inWork
  rw [List.getD_eq_getElem?_getD, List.getElem?_set, if_pos rfl, if_pos (by rw [filled_len _ (by rw [first_len]; omega)]; exact hi)]
  rfl
theorem inWork_set (b : List UInt8) (i j : Nat) : (inWork b i j).set i (pv b i (j + 1)) = inWork b i (j + 1) := by
  unfold inWork
  rw [List.set_set]
theorem inWork_four (b : List UInt8) (i : Nat) (hi : i < 64) : inWork b i 4 = filled (first b (i + 1)) := by
  unfold inWork
  have := filled_set (first b i) (wordAt b i) (by rw [first_len]; omega)
  rw [first_len] at this
  rw [pv4, this, first]
attribute [local go_sem] U_xor U_and U_or U_add U_add' U_shr3 U_shr8 U_shr10 U_shr16 U_shr24 U_shl8 U_shl16 U_shl24 U_shl8w U_shl16w U_shl24w B_wide B_wide' U_byte U_byte' U_not u32_signed u32_max
set_option maxRecDepth 100000 in
set_option maxHeartbeats 4000000 in
theorem words_calls (b : List UInt8) (hb : b.length = 64) (w : World) : Calls Tryd.prog 52 #[.agg (b.map bcell).toArray] w fun e w' => e = .returned (.agg (warr (sched b))) ∧ Below w.heap.size w w' := by
  have RT := Aside0.mk (fun (n : Nat) (h0 : 0 < n) (h1 : n < 32) (x : B32) (W : World) => turn_calls x n h0 h1 W)
  have R7 : Aside0 (∀ x W, Calls Tryd.prog 65 #[.int .u32 (U x), .int .u64 7] W fun e w' => e = .returned (.int .u32 (U (rotr x 7))) ∧ w' = W) := ⟨RT.out 7 (by decide) (by decide)⟩
  have R18 : Aside0 (∀ x W, Calls Tryd.prog 65 #[.int .u32 (U x), .int .u64 18] W fun e w' => e = .returned (.int .u32 (U (rotr x 18))) ∧ w' = W) := ⟨RT.out 18 (by decide) (by decide)⟩
  have R17 : Aside0 (∀ x W, Calls Tryd.prog 65 #[.int .u32 (U x), .int .u64 17] W fun e w' => e = .returned (.int .u32 (U (rotr x 17))) ∧ w' = W) := ⟨RT.out 17 (by decide) (by decide)⟩
  have R19 : Aside0 (∀ x W, Calls Tryd.prog 65 #[.int .u32 (U x), .int .u64 19] W fun e w' => e = .returned (.int .u32 (U (rotr x 19))) ∧ w' = W) := ⟨RT.out 19 (by decide) (by decide)⟩
  clear RT
  have hu53 := Tryd.underlying53
  have hu85 := Tryd.underlying85
  have HK0 := Aside0.mk (Wk.start w b)
  have HB := Aside0.mk hb
  clear hb
  go_enter Tryd.func52, Tryd.ntmps52
  go_wp2
  go_loopg [4] 64 (fun g v4 wx => ∃ i : Nat, i + g = 64 ∧ v4 = .int .i64 (i : Int) ∧ Aside0 (Wk w.heap.size w wx b (if i ≤ 16 then filled (first b i) else filled (more b (i - 16)))))
  case atStart => exact ⟨0, by omega, rfl, HK0⟩
  case round =>
    clear HK0
    obtain ⟨i, hig, rfl, HK⟩ := hrel
    cases gk with
    | zero =>
      obtain rfl : i = 64 := by omega
      have HK3 : Aside0 (Wk w.heap.size w wr b (sched b)) := by
        have e : filled (more b 48) = sched b := by
          unfold filled
          rw [more_len, Nat.sub_self]
          show more b 48 ++ [] = _
          rw [List.append_nil, sched]
        rw [← e]; exact HK
      clear HK
      have d1 : decide ((64 : Int) < 64) = false := decide_eq_false (by omega)
      go_wp2_with (first
        | ((with_reducible refine gate_dst (N := 73) rfl ?_); refine wpList_load_mid rfl 85 (.tmp 3) rfl (w.heap.size + 1 + 1) 0 rfl ((sched b).map wcell) _ (range_row HK3.out.wb) Tryd.underlying85 rfl (by rw [List.length_map, sched_len]; kernel_rfl) ?_)
        | ((with_reducible refine gate_store (t := 85) (p := 2) rfl ?_); refine wpList_store_row' rfl 85 (.tmp 2) (.tmp 73) rfl (w.heap.size + 1) 85 (warr (List.replicate 64 0)) (warr (sched b)) rfl rfl HK3.out.rb (by rw [warr, List.size_toArray, List.length_map, sched_len]; kernel_rfl) (by rw [warr, warr, List.size_toArray, List.size_toArray, List.length_map, List.length_map, sched_len]; rfl) (all_oneCell_toArray fun u hu => by obtain ⟨y, _, rfl⟩ := List.mem_map.1 hu; rfl) ?_; intro w9 hw9; have HX9 : Aside0 (w9.heap[w.heap.size + 1]? = some (.cells (warr (sched b)) 85 (0, 0))) := ⟨by rw [hw9]; exact setRow_heap _ _ _ _ _ _ HK3.out.rb⟩; have HB9 : Aside0 (Below w.heap.size w w9) := ⟨by rw [hw9]; exact below_setRow HK3.out.below (Nat.le_succ _) _⟩; clear hw9))
      exact bodyPost_ret (v := .agg (warr (sched b))) (results_cell_row rfl _ _ (w.heap.size + 1) 85 (warr (sched b)) (0, 0) _ rfl HX9.out Tryd.underlying85 rfl (by rw [warr, List.size_toArray, List.length_map, sched_len]; kernel_rfl)) rfl ⟨rfl, HB9.out⟩
    | succ k1 =>
      have d1 : decide ((i : Int) < 64) = true := decide_eq_true (by omega)
      by_cases hi : i < 16
      · have d2 : decide ((i : Int) < 16) = true := decide_eq_true (by omega)
        have HK1 : Aside0 (Wk w.heap.size w wr b (inWork b i 0)) := ⟨by rw [inWork_zero b i (by omega)]; have := HK.out; rw [if_pos (by omega)] at this; exact this⟩
        clear HK
        go_wp2
        go_loopg [5] 4 (fun g v5 wx => ∃ j : Nat, j + g = 4 ∧ v5 = .int .i64 (j : Int) ∧ Aside0 (Wk w.heap.size w wx b (inWork b i j)))
        case atStart => exact ⟨0, by omega, rfl, HK1⟩
        case round =>
          clear HK1
          obtain ⟨j, hjg, rfl, HK⟩ := hrel
          cases gk with
          | zero =>
            obtain rfl : j = 4 := by omega
            go_wp2
            go_roundg k1
            case measure => omega
            case rel =>
              refine ⟨i + 1, by omega, by go_num, ⟨?_⟩⟩
              rw [if_pos (by omega), ← inWork_four b i (by omega)]
              exact HK.out
          | succ k2 =>
            have e0 : (4 * (i : Int) + (j : Int)).toNat = 4 * i + j := by omega
            have p0 : (0 ≤ 4 * (i : Int) + (j : Int)) = True := eq_true (by omega)
            have q0 : (4 * (i : Int) + (j : Int) < 64) = True := eq_true (by omega)
            have p9 : (0 ≤ (i : Int)) = True := eq_true (by omega)
            have q9 : ((i : Int) < 64) = True := eq_true (by omega)
            have d3 : decide ((j : Int) < 4) = true := decide_eq_true (by omega)
            have wr_ : ∀ x : Int, 0 ≤ x → x < 1000 → IntKind.i64.wrap x = x := fun x h0 h1 => by rw [IntKind.wrap_i64]; omega
            have m0 := wr_ (4 * (i : Int)) (by omega) (by omega)
            have m1 := wr_ (4 * (i : Int) + (j : Int)) (by omega) (by omega)
            clear wr_
            go_wp2
            refine wp_region_still_tail 14 (by kernel_rfl) (by kernel_rfl) ?_
            change wpStill _ _ (World.drew wr) (fun a' => wpList _ _ _ _ a' (World.drew wr)) _ _
            have HK2 := Aside0.mk (HK.out.keep (below_drew (Below.refl _ wr)))
            generalize World.drew wr = w2 at HK2 ⊢
            have y0 := HK2.out.byte (4 * i + j) (by rw [HB.out]; omega)
            have y1 := HK2.out.word i (by rw [inWork_len _ _ _ (by omega)]; omega)
            rw [inWork_get b i j (by omega)] at y1
            obtain ⟨x0, hx0⟩ : ∃ x, b.getD (4 * i + j) 0 = x := ⟨_, rfl⟩
            obtain ⟨xp, hxp⟩ : ∃ x, pv b i j = x := ⟨_, rfl⟩
            have HPV := Aside0.mk (show pv b i (j + 1) = xp <<< (8 : Nat) + BitVec.ofNat 32 x0.toNat from by rw [pv, hx0, hxp])
            rw [hx0] at y0
            rw [hxp] at y1
            have y5 := HK2.out.fro i
            clear hx0 hxp HK
            simp only [List.take_succ_cons, List.take_zero, List.drop_succ_cons, List.drop_zero]
            repeat still_step
            refine wpStill_nil ?_
            change wpList _ _ _ _ _ w2
            go_wp2
            clear m0 m1
            go_roundg k2
            case measure => omega
            case rel =>
              refine ⟨j + 1, by omega, by go_num, ⟨?_⟩⟩
              rw [← inWork_set, HPV.out]
              exact HK2.out.set i _
      · have d2 : decide ((i : Int) < 16) = false := decide_eq_false (by omega)
        obtain ⟨n, hn⟩ : ∃ n, i = 16 + n := ⟨i - 16, by omega⟩
        have HK1 : Aside0 (Wk w.heap.size w wr b (filled (more b n))) := ⟨by
          have := HK.out
          by_cases h16 : i ≤ 16
          · obtain rfl : n = 0 := by omega
            rw [if_pos h16, show i = 16 from by omega] at this
            exact this
          · rw [if_neg h16, show i - 16 = n from by omega] at this
            exact this⟩
        clear HK
        have e15 : ((i : Int) - 15).toNat = i - 15 := by omega
        have e2 : ((i : Int) - 2).toNat = i - 2 := by omega
        have e16 : ((i : Int) - 16).toNat = i - 16 := by omega
        have e7 : ((i : Int) - 7).toNat = i - 7 := by omega
        have a15 : (0 ≤ (i : Int) - 15) = True := eq_true (by omega)
        have a2 : (0 ≤ (i : Int) - 2) = True := eq_true (by omega)
        have a16 : (0 ≤ (i : Int) - 16) = True := eq_true (by omega)
        have a7 : (0 ≤ (i : Int) - 7) = True := eq_true (by omega)
        have s15 : (15 ≤ (i : Int)) = True := eq_true (by omega)
        have s2 : (2 ≤ (i : Int)) = True := eq_true (by omega)
        have s16 : (16 ≤ (i : Int)) = True := eq_true (by omega)
        have s7 : (7 ≤ (i : Int)) = True := eq_true (by omega)
        have b15 : ((i : Int) - 15 < 64) = True := eq_true (by omega)
        have b2 : ((i : Int) - 2 < 64) = True := eq_true (by omega)
        have b16 : ((i : Int) - 16 < 64) = True := eq_true (by omega)
        have b7 : ((i : Int) - 7 < 64) = True := eq_true (by omega)
        have p9 : (0 ≤ (i : Int)) = True := eq_true (by omega)
        have q9 : ((i : Int) < 64) = True := eq_true (by omega)
        obtain ⟨l, hl⟩ : ∃ l, more b n = l := ⟨_, rfl⟩
        have hll : l.length = 16 + n := by rw [← hl]; exact more_len b n
        rw [hl] at HK1
        obtain ⟨x15, hx15⟩ : ∃ x, l.getD (i - 15) 0 = x := ⟨_, rfl⟩
        obtain ⟨x2, hx2⟩ : ∃ x, l.getD (i - 2) 0 = x := ⟨_, rfl⟩
        obtain ⟨x16, hx16⟩ : ∃ x, l.getD (i - 16) 0 = x := ⟨_, rfl⟩
        obtain ⟨x7, hx7⟩ : ∃ x, l.getD (i - 7) 0 = x := ⟨_, rfl⟩
        have hlj : l.length = i := by omega
        have HN := Aside0.mk (show filled (more b (n + 1)) = (filled l).set i ((rotr x2 17 ^^^ rotr x2 19 ^^^ x2 >>> (10 : Nat)) + x7 + (rotr x15 7 ^^^ rotr x15 18 ^^^ x15 >>> (3 : Nat)) + x16) from by
          have hcm : (rotr x2 17 ^^^ rotr x2 19 ^^^ x2 >>> (10 : Nat)) + x7 + (rotr x15 7 ^^^ rotr x15 18 ^^^ x15 >>> (3 : Nat)) + x16 = x16 + (rotr x15 7 ^^^ rotr x15 18 ^^^ x15 >>> (3 : Nat)) + x7 + (rotr x2 17 ^^^ rotr x2 19 ^^^ x2 >>> (10 : Nat)) := by
            ac_rfl
          rw [hcm]
          have := filled_set l (x16 + (rotr x15 7 ^^^ rotr x15 18 ^^^ x15 >>> (3 : Nat)) + x7 + (rotr x2 17 ^^^ rotr x2 19 ^^^ x2 >>> (10 : Nat))) (by omega)
          rw [hlj] at this
          rw [this, more, hl]
          unfold next
          rw [hlj, hx15, hx2, hx16, hx7])
        have KW := Aside0.mk (show ∀ W, Wk w.heap.size w W b (filled l) → (W.cell? ⟨w.heap.size + 1 + 1, i - 15, none⟩ = some (.int .u32 (U x15)) ∧ W.cell? ⟨w.heap.size + 1 + 1, i - 2, none⟩ = some (.int .u32 (U x2))) ∧ (W.cell? ⟨w.heap.size + 1 + 1, i - 16, none⟩ = some (.int .u32 (U x16)) ∧ W.cell? ⟨w.heap.size + 1 + 1, i - 7, none⟩ = some (.int .u32 (U x7))) from fun W hk => by
          have fl := filled_len l (by omega)
          have c15 := hk.word (i - 15) (by omega)
          have c2 := hk.word (i - 2) (by omega)
          have c16 := hk.word (i - 16) (by omega)
          have c7 := hk.word (i - 7) (by omega)
          rw [filled_get l _ (by omega)] at c15 c2 c16 c7
          rw [hx15] at c15
          rw [hx2] at c2
          rw [hx16] at c16
          rw [hx7] at c7
          exact ⟨⟨c15, c2⟩, c16, c7⟩)
        have HLJ := Aside0.mk hlj
        have HNI := Aside0.mk hn
        have HIG := Aside0.mk hig
        clear hx15 hx2 hx16 hx7 hl hll hlj hn
        obtain ⟨⟨c15, c2⟩, _, _⟩ := KW.out _ HK1.out
        have wr_ : ∀ x : Int, 0 ≤ x → x < 1000 → IntKind.i64.wrap x = x := fun x h0 h1 => by rw [IntKind.wrap_i64]; omega
        have m15 := wr_ ((i : Int) - 15) (by omega) (by omega)
        have m2 := wr_ ((i : Int) - 2) (by omega) (by omega)
        have m16 := wr_ ((i : Int) - 16) (by omega) (by omega)
        have m7 := wr_ ((i : Int) - 7) (by omega) (by omega)
        clear wr_
        go_wp2_with (first | (go_at_call 65; ((with_reducible refine (R7.out _ _).mono ?_)); rintro e w2 ⟨rfl, hw⟩; rw [hw]; clear hw) | (go_at_call 65; ((with_reducible refine (R18.out _ _).mono ?_)); rintro e w2 ⟨rfl, hw⟩; rw [hw]; clear hw) | (go_at_call 65; ((with_reducible refine (R17.out _ _).mono ?_)); rintro e w2 ⟨rfl, hw⟩; rw [hw]; clear hw) | (go_at_call 65; ((with_reducible refine (R19.out _ _).mono ?_)); rintro e w2 ⟨rfl, hw⟩; rw [hw]; clear hw))
        have HK5 : Aside0 (Wk w.heap.size w wr b (filled l)) := HK1
        clear c15 c2 HK1
        refine wp_region_still_tail 15 (by kernel_rfl) (by kernel_rfl) ?_
        change wpStill _ _ (World.drew wr) (fun a' => wpList _ _ _ _ a' (World.drew wr)) _ _
        have HK6 := Aside0.mk (HK5.out.keep (below_drew (Below.refl _ wr)))
        generalize World.drew wr = w6 at HK6 ⊢
        obtain ⟨⟨_, _⟩, c16, c7⟩ := KW.out _ HK6.out
        have hj64 : i < 64 := by omega
        have y4 := HK6.out.word i (by rw [filled_len _ (by rw [HLJ.out]; omega)]; exact hj64)
        have y5 := HK6.out.fro i
        clear hj64
        simp only [List.take_succ_cons, List.take_zero, List.drop_succ_cons, List.drop_zero]
        repeat still_step
        refine wpStill_nil ?_
        change wpList _ _ _ _ _ w6
        go_wp2
        clear m15 m2 m16 m7
        go_roundg k1
        case measure => omega
        case rel =>
          have hn := HNI.out
          refine ⟨i + 1, by omega, by go_num, ⟨?_⟩⟩
          rw [if_neg (by omega), show i + 1 - 16 = n + 1 from by omega, HN.out]
          exact HK6.out.set i _
end Go.Proofs.YtglhbbijoeeclaaDoor.Sha
/- The document's SHA-256: a block. -/
namespace Go.Proofs.YtglhbbijoeeclaaDoor.Sha
open Go.Proofs.YtglhbbijoeeclaaDoor.OrdersBut Go.RowKit Go.Proofs.YtglhbbijoeeclaaDoorW.PrintWords Go.Proofs.YtglhbbijoeeclaaDoorW.PrintLast Go.Proofs.YtglhbbijoeeclaaDoorW.PrintMore Go.Proofs.YtglhbbijoeeclaaDoor.Bytes
set_option linter.unusedVariables false
set_option linter.unusedSimpArgs false
theorem setCell_rowT (w : World) (b i : Nat) (cs : List Value) (v : Value) (t : TypeId) (hg : w.heap[b]? = some (.cells cs.toArray t (0, 0))) : w.setCell ⟨b, i, none⟩ v = w.setRow b (cs.set i v).toArray := by
  rw [setCell_eq_setRow w b i _ _ _ v hg]
  simp
theorem setCells_rowT (w : World) (b : Nat) (vs : List Value) (t : TypeId) : ∀ (o : Nat) (cs : List Value), w.heap[b]? = some (.cells cs.toArray t (0, 0)) → o + vs.length ≤ cs.length → w.setCells b o vs = w.setRow b (cs.take o ++ vs ++ cs.drop (o + vs.length)).toArray := by
  induction vs generalizing w with
  | nil =>
    intro o cs hg hl
    rw [World.setCells]
    simp
    exact (setRow_self w b _ _ _ hg).symm
  | cons v r ih =>
    intro o cs hg hl
    rw [List.length_cons] at hl
    rw [World.setCells, setCell_rowT w b o cs v t hg, ih _ (o + 1) (cs.set o v) (by rw [setRow_heap w b _ _ _ _ hg]) (by rw [List.length_set]; omega), setRow_setRow]
    congr 2
    rw [List.take_add_one, List.take_set_of_le (Nat.le_refl _), List.getElem?_set_self (by omega), List.drop_set_of_lt (by omega)]
    simp
    rw [show o + 1 + r.length = o + (r.length + 1) from by omega]
/-- The boxes of the document's Block: the words that came in, the answer, the schedule, the constants, the words at work. -/
structure Rk (h p5 p6 p7 : Nat) (w W : World) (v0 : V8) (ws x : List B32) : Prop where
  hb : W.heap[h]? = some (.cells v0.cells 70 (0, 0))
  rb : W.heap[h + 1 + 1]? = some (.cells (V8.cells ⟨0, 0, 0, 0, 0, 0, 0, 0⟩) 70 (0, 0))
  wb : W.heap[p5]? = some (.cells (warr ws) 85 (0, 0))
  kb : W.heap[p6]? = some (.cells (warr K) 85 (0, 0))
  xb : W.heap[p7]? = some (.cells (warr x) 70 (0, 0))
  o5 : h + 1 + 1 < p5
  o6 : p5 < p6
  o7 : p6 < p7
  below : Below h w W
section
variable {h p5 p6 p7 : Nat} {w W W2 : World} {v0 : V8} {ws x : List B32}
theorem Rk.lt (k : Rk h p5 p6 p7 w W v0 ws x) : p7 < W.heap.size := (Array.getElem?_eq_some_iff.1 k.xb).1
theorem Rk.keep (k : Rk h p5 p6 p7 w W v0 ws x) (hb : Below W.heap.size W W2) : Rk h p5 p6 p7 w W2 v0 ws x := by
  have z := k.lt
  have z5 := k.o5
  have z6 := k.o6
  have z7 := k.o7
  exact ⟨(hb.block _ (by omega)).trans k.hb, (hb.block _ (by omega)).trans k.rb, (hb.block _ (by omega)).trans k.wb, (hb.block _ (by omega)).trans k.kb, (hb.block _ (by omega)).trans k.xb, z5, z6, z7, k.below.trans (hb.mono (by omega))⟩
theorem word_at {W : World} {p i : Nat} {l : List B32} {t : TypeId} (hb : W.heap[p]? = some (.cells (warr l) t (0, 0))) (hi : i < l.length) : W.cell? ⟨p, i, none⟩ = some (.int .u32 (U (l.getD i 0))) := by
  simp [World.cell?, hb, warr, List.getElem?_map, List.getElem?_eq_getElem hi, List.getD_eq_getElem?_getD, wcell]
theorem Rk.row (k : Rk h p5 p6 p7 w W v0 ws x) (y : List B32) : Rk h p5 p6 p7 w (W.setRow p7 (warr y)) v0 ws y := by
  have z := k.lt
  have z5 := k.o5
  have z6 := k.o6
  have z7 := k.o7
  exact ⟨(setRow_other _ _ _ _ (by omega)).trans k.hb, (setRow_other _ _ _ _ (by omega)).trans k.rb, (setRow_other _ _ _ _ (by omega)).trans k.wb, (setRow_other _ _ _ _ (by omega)).trans k.kb, setRow_heap _ _ _ _ _ _ k.xb, z5, z6, z7, below_setRow k.below (by omega) _⟩
theorem Rk.put (k : Rk h p5 p6 p7 w W v0 ws x) (y : V8) (hx : x.length = 8) : Rk h p5 p6 p7 w (W.setCells p7 0 y.cells.toList) v0 ws y.words := by
  have e := setCells_rowT W p7 y.cells.toList 70 0 (x.map wcell) k.xb (by rw [List.length_map, hx]; show 0 + 8 ≤ 8; omega)
  rw [e]
  have e2 : ((x.map wcell).take 0 ++ y.cells.toList ++ (x.map wcell).drop (0 + y.cells.toList.length)).toArray = warr y.words := by
    rw [List.take_zero, List.nil_append, List.drop_of_length_le (by rw [List.length_map, hx]; show 8 ≤ 0 + 8; omega), List.append_nil]
    rfl
  rw [e2]
  exact k.row _
theorem Rk.set (k : Rk h p5 p6 p7 w W v0 ws x) (i : Nat) (u : B32) : Rk h p5 p6 p7 w (W.setCell ⟨p7, i, none⟩ (.int .u32 (U u))) v0 ws (x.set i u) := by
  rw [setCell_rowT W p7 i (x.map wcell) _ 70 k.xb]
  have e : ((x.map wcell).set i (.int .u32 (U u))).toArray = warr (x.set i u) := by rw [warr, List.map_set]; rfl
  rw [e]
  exact k.row _
end
/-- The words at work, the first i of them summed with those that came in. -/
def mixw (v r : V8) (i : Nat) : List B32 := (vadd v r).words.take i ++ r.words.drop i
theorem mixw_len (v r : V8) (i : Nat) (h : i ≤ 8) : (mixw v r i).length = 8 := by
  have h1 : (vadd v r).words.length = 8 := rfl
  have h2 : r.words.length = 8 := rfl
  rw [mixw, List.length_append, List.length_take, List.length_drop, h1, h2]
  omega
theorem mixw_get (v r : V8) (i : Nat) (h : i < 8) : (mixw v r i).getD i 0 = r.words.getD i 0 := by
  match i, h with
  | 0, _ => rfl
  | 1, _ => rfl
  | 2, _ => rfl
  | 3, _ => rfl
  | 4, _ => rfl
  | 5, _ => rfl
  | 6, _ => rfl
  | 7, _ => rfl
theorem mixw_set (v r : V8) (i : Nat) (h : i < 8) : (mixw v r i).set i (r.words.getD i 0 + v.words.getD i 0) = mixw v r (i + 1) := by
  rw [BitVec.add_comm]
  match i, h with
  | 0, _ => rfl
  | 1, _ => rfl
  | 2, _ => rfl
  | 3, _ => rfl
  | 4, _ => rfl
  | 5, _ => rfl
  | 6, _ => rfl
  | 7, _ => rfl
attribute [local go_sem] U_xor U_and U_or U_add U_add' u32_signed u32_max
set_option maxRecDepth 100000 in
set_option maxHeartbeats 4000000 in
theorem rblock_calls (v : V8) (b : List UInt8) (hb : b.length = 64) (w : World) : Calls Tryd.prog 40 #[.agg v.cells, .agg (b.map bcell).toArray] w fun e w' => e = .returned (.agg (block v b).cells) ∧ Below w.heap.size w w' := by
  obtain ⟨bv, hbv⟩ : ∃ bv, block v b = bv := ⟨_, rfl⟩
  have HBV := Aside0.mk hbv
  rw [hbv]
  clear hbv
  have hu53 := Tryd.underlying53
  have hu85 := Tryd.underlying85
  have hu70 := Tryd.underlying70
  have HB := Aside0.mk hb
  have CW := Aside0.mk (fun W => words_calls b hb W)
  clear hb
  obtain ⟨W1, hW1⟩ : ∃ W1, ((w.alloc (.cells v.cells 70)).alloc (.cells (barr b) 53)).alloc (.cells (V8.cells ⟨0, 0, 0, 0, 0, 0, 0, 0⟩) 70) = W1 := ⟨_, rfl⟩
  have a1 : ∀ (W : World) (o : Obj), (W.alloc o).heap.size = W.heap.size + 1 := fun W o => Array.size_push _
  have a2 : ∀ (W : World) (o : Obj) (k : Nat), k < W.heap.size → (W.alloc o).heap[k]? = W.heap[k]? := fun W o k hk => ((Below.refl W.heap.size W).alloc (Nat.le_refl _) o).block k hk
  have a3 : ∀ (W : World) (o : Obj) (k : Nat), k = W.heap.size → (W.alloc o).heap[k]? = some o := fun W o k hk => by rw [hk]; exact World.alloc_heap_new W o
  have HB1 : Aside0 (Below w.heap.size w W1 ∧ W1.heap.size = w.heap.size + 1 + 1 + 1) := ⟨by rw [← hW1]; exact ⟨(((Below.refl _ w).alloc (Nat.le_refl _) _).alloc (by simp only [a1]; omega) _).alloc (by simp only [a1]; omega) _, by simp only [a1]⟩⟩
  have HX1 : Aside0 (W1.heap[w.heap.size]? = some (.cells v.cells 70 (0, 0)) ∧ W1.heap[w.heap.size + 1]? = some (.cells (barr b) 53 (0, 0)) ∧ W1.heap[w.heap.size + 1 + 1]? = some (.cells (V8.cells ⟨0, 0, 0, 0, 0, 0, 0, 0⟩) 70 (0, 0))) := ⟨by
    rw [← hW1]
    refine ⟨?_, ?_, ?_⟩
    · rw [a2 _ _ _ (by simp only [a1]; omega), a2 _ _ _ (by simp only [a1]; omega), a3 _ _ _ rfl]
    · rw [a2 _ _ _ (by simp only [a1]; omega), a3 _ _ _ (by simp only [a1])]
    · rw [a3 _ _ _ (by simp only [a1])]⟩
  have A3 := Aside0.mk a3
  clear a1 a2 a3
  go_enter Tryd.func40, Tryd.ntmps40
  go_upto_region 1 with fail
  change Code.wp _ _ _ _ (((w.alloc (.cells v.cells 70)).alloc (.cells (barr b) 53)).alloc (.cells (V8.cells ⟨0, 0, 0, 0, 0, 0, 0, 0⟩) 70))
  rw [hW1]
  clear hW1
  go_wp2_with (first
    | ((with_reducible refine gate_dst (N := 10) rfl ?_); refine wpList_load_mid rfl 53 (.tmp 3) rfl (w.heap.size + 1) 0 rfl (b.map bcell) _ (range_row HX1.out.2.1) Tryd.underlying53 rfl (by rw [List.length_map, HB.out]; kernel_rfl) ?_)
    | (go_at_call 52; ((with_reducible refine (CW.out W1).mono ?_)); rintro e w2 ⟨rfl, hb2⟩; have HB2 := Aside0.mk hb2; clear hb2)
    | ((with_reducible refine gate_store (t := 85) (p := 5) rfl ?_); refine wpList_store_row' rfl 85 (.tmp 5) (.tmp 11) rfl w2.heap.size 85 (warr (List.replicate 64 0)) (warr (sched b)) rfl rfl (World.alloc_heap_new w2 _) (by rw [warr, List.size_toArray, List.length_map, sched_len]; kernel_rfl) (by rw [warr, warr, List.size_toArray, List.size_toArray, List.length_map, List.length_map, sched_len]; rfl) (all_oneCell_toArray fun u hu => by obtain ⟨y, _, rfl⟩ := List.mem_map.1 hu; rfl) ?_; intro w3 hw3; have HB3 : Aside0 (Below w2.heap.size w2 w3 ∧ w3.heap[w2.heap.size]? = some (.cells (warr (sched b)) 85 (0, 0))) := ⟨by rw [hw3]; exact ⟨below_setRow ((Below.refl _ _).alloc (Nat.le_refl _) _) (Nat.le_refl _) _, setRow_heap _ _ _ _ _ _ (World.alloc_heap_new w2 _)⟩⟩; clear hw3)
    | (go_at_call 53; ((with_reducible refine (constants_calls w3).mono ?_)); rintro e w4 ⟨rfl, hb4⟩; have HB4 := Aside0.mk hb4; clear hb4)
    | ((with_reducible refine gate_store (t := 85) (p := 6) rfl ?_); refine wpList_store_row' rfl 85 (.tmp 6) (.tmp 12) rfl w4.heap.size 85 (warr (List.replicate 64 0)) (warr K) rfl rfl (World.alloc_heap_new w4 _) (by kernel_rfl) (by kernel_rfl) (by kernel_rfl) ?_; intro w5 hw5; have HB5 : Aside0 (Below w4.heap.size w4 w5 ∧ w5.heap[w4.heap.size]? = some (.cells (warr K) 85 (0, 0))) := ⟨by rw [hw5]; exact ⟨below_setRow ((Below.refl _ _).alloc (Nat.le_refl _) _) (Nat.le_refl _) _, setRow_heap _ _ _ _ _ _ (World.alloc_heap_new w4 _)⟩⟩; clear hw5; have HV5 : Aside0 (w5.heap[w.heap.size]? = some (.cells v.cells 70 (0, 0))) := ⟨by have z1 := HB1.out.2; have z2 := HB2.out.size; have z3 := HB3.out.1.size; have z4 := HB4.out.size; rw [HB5.out.1.block _ (by omega), HB4.out.block _ (by omega), HB3.out.1.block _ (by omega), HB2.out.block _ (by omega)]; exact HX1.out.1⟩)
    | ((with_reducible refine gate_dst (N := 13) rfl ?_); refine wpList_load_mid rfl 70 (.tmp 2) rfl w.heap.size 0 rfl (v.words.map wcell) _ (range_row HV5.out) Tryd.underlying70 rfl (by kernel_rfl) ?_)
    | ((with_reducible refine gate_store (t := 70) (p := 7) rfl ?_); refine wpList_store_row' rfl 70 (.tmp 7) (.tmp 13) rfl w5.heap.size 70 (V8.cells ⟨0, 0, 0, 0, 0, 0, 0, 0⟩) (warr v.words) rfl rfl (World.alloc_heap_new w5 _) (by kernel_rfl) (by kernel_rfl) (by kernel_rfl) ?_; intro w6 hw6; have HB6 : Aside0 (Below w5.heap.size w5 w6 ∧ w6.heap[w5.heap.size]? = some (.cells (warr v.words) 70 (0, 0))) := ⟨by rw [hw6]; exact ⟨below_setRow ((Below.refl _ _).alloc (Nat.le_refl _) _) (Nat.le_refl _) _, setRow_heap _ _ _ _ _ _ (World.alloc_heap_new w5 _)⟩⟩; clear hw6))
  have HK0 : Aside0 (Rk w.heap.size w2.heap.size w4.heap.size w5.heap.size w w6 v (sched b) v.words) := ⟨by
    have z1 := HB1.out.2
    have z2 := HB2.out.size
    have z3 := HB3.out.1.size
    have z4 := HB4.out.size
    have z5 := HB5.out.1.size
    have z6 := HB6.out.1.size
    have l3 := (Array.getElem?_eq_some_iff.1 HB3.out.2).1
    have l5 := (Array.getElem?_eq_some_iff.1 HB5.out.2).1
    refine ⟨?_, ?_, ?_, ?_, HB6.out.2, by omega, by omega, by omega, ?_⟩
    · rw [HB6.out.1.block _ (by omega)]; exact HV5.out
    · rw [HB6.out.1.block _ (by omega), HB5.out.1.block _ (by omega), HB4.out.block _ (by omega), HB3.out.1.block _ (by omega), HB2.out.block _ (by omega)]; exact HX1.out.2.2
    · rw [HB6.out.1.block _ (by omega), HB5.out.1.block _ (by omega), HB4.out.block _ (by omega)]; exact HB3.out.2
    · rw [HB6.out.1.block _ (by omega)]; exact HB5.out.2
    · exact HB1.out.1.trans ((HB2.out.mono (by omega)).trans ((HB3.out.1.mono (by omega)).trans ((HB4.out.mono (by omega)).trans ((HB5.out.1.mono (by omega)).trans (HB6.out.1.mono (by omega))))))⟩
  obtain ⟨ws, hws⟩ : ∃ ws, sched b = ws := ⟨_, rfl⟩
  have HWS := Aside0.mk hws
  have HWL := Aside0.mk (show ws.length = 64 from by rw [← hws]; exact sched_len b)
  rw [hws] at HK0
  generalize w2.heap.size = p5 at HK0 ⊢
  generalize w4.heap.size = p6 at HK0 ⊢
  generalize w5.heap.size = p7 at HK0 ⊢
  clear hws HB1 HB2 HB3 HB4 HB5 HB6 HV5 HX1
  go_loopg [8] 64 (fun g v8 wx => ∃ i : Nat, i + g = 64 ∧ v8 = .int .i64 (i : Int) ∧ Aside0 (Rk w.heap.size p5 p6 p7 w wx v ws (rounds ws v i).words))
  case atStart => exact ⟨0, by omega, rfl, HK0⟩
  case round =>
    clear HK0
    obtain ⟨i, hig, rfl, HK⟩ := hrel
    cases gk with
    | zero =>
      have hi64 : i = 64 := by omega
      subst hi64
      obtain ⟨r, hr⟩ : ∃ r, rounds ws v 64 = r := ⟨_, rfl⟩
      have HRR := Aside0.mk (show bv = vadd v r from by rw [← HBV.out]; unfold block; rw [HWS.out, hr])
      rw [hr] at HK
      have HK1 : Aside0 (Rk w.heap.size p5 p6 p7 w wr v ws (mixw v r 0)) := HK
      clear HK hr
      go_wp2
      go_loopg [9] 8 (fun g v9 wx => ∃ i : Nat, i + g = 8 ∧ v9 = .int .i64 (i : Int) ∧ Aside0 (Rk w.heap.size p5 p6 p7 w wx v ws (mixw v r i)))
      case atStart => exact ⟨0, by omega, rfl, HK1⟩
      case round =>
        clear HK1
        obtain ⟨i, hig, rfl, HK⟩ := hrel
        cases gk with
        | zero =>
          have hi8 : i = 8 := by omega
          subst hi8
          have HK2 : Aside0 (Rk w.heap.size p5 p6 p7 w wr v ws bv.words) := ⟨by
            rw [HRR.out]
            exact HK.out⟩
          clear HK
          go_wp2_with (first
            | ((with_reducible refine gate_dst (N := 39) rfl ?_); refine wpList_load_mid rfl 70 (.tmp 7) rfl p7 0 rfl (bv.words.map wcell) _ (range_row HK2.out.xb) Tryd.underlying70 rfl (by kernel_rfl) ?_)
            | ((with_reducible refine gate_store (t := 70) (p := 4) rfl ?_); refine wpList_store_row' rfl 70 (.tmp 4) (.tmp 39) rfl (w.heap.size + 1 + 1) 70 (V8.cells ⟨0, 0, 0, 0, 0, 0, 0, 0⟩) (warr bv.words) rfl rfl HK2.out.rb (by kernel_rfl) (by kernel_rfl) (by kernel_rfl) ?_; intro w9 hw9; have HX9 : Aside0 (w9.heap[w.heap.size + 1 + 1]? = some (.cells (warr bv.words) 70 (0, 0))) := ⟨by rw [hw9]; exact setRow_heap _ _ _ _ _ _ HK2.out.rb⟩; have HB9 : Aside0 (Below w.heap.size w w9) := ⟨by rw [hw9]; exact below_setRow HK2.out.below (by omega) _⟩; clear hw9))
          exact bodyPost_ret (v := .agg bv.cells) (results_cell_row rfl _ _ (w.heap.size + 1 + 1) 70 bv.cells (0, 0) _ rfl HX9.out Tryd.underlying70 rfl (by kernel_rfl)) rfl ⟨rfl, HB9.out⟩
        | succ k1 =>
          have hi : i < 8 := by omega
          have d1 : decide ((i : Int) < 8) = true := decide_eq_true (by omega)
          have p9 : (0 ≤ (i : Int)) = True := eq_true (by omega)
          have q9 : ((i : Int) < 8) = True := eq_true (by omega)
          have HI := Aside0.mk hi
          go_wp2
          refine wp_region_still_tail 8 (by kernel_rfl) (by kernel_rfl) ?_
          change wpStill _ _ (World.drew wr) (fun a' => wpList _ _ _ _ a' (World.drew wr)) _ _
          have HK2 := Aside0.mk (HK.out.keep (below_drew (Below.refl _ wr)))
          generalize World.drew wr = w2_ at HK2 ⊢
          have y1 := word_at (i := i) HK2.out.xb (by rw [mixw_len _ _ _ (by omega)]; exact hi)
          rw [mixw_get v r i hi] at y1
          have y2 := word_at (i := i) (l := v.words) (show w2_.heap[w.heap.size]? = some (.cells (warr v.words) 70 (0, 0)) from HK2.out.hb) hi
          have y5 := fro_of HK2.out.xb i
          clear HK hi
          simp only [List.take_succ_cons, List.take_zero, List.drop_succ_cons, List.drop_zero]
          repeat still_step
          refine wpStill_nil ?_
          change wpList _ _ _ _ _ w2_
          go_wp2
          go_roundg k1
          case measure => omega
          case rel =>
            refine ⟨i + 1, by omega, by go_num, ⟨?_⟩⟩
            rw [← mixw_set v r i HI.out]
            exact HK2.out.set i _
    | succ k1 =>
      have hi : i < 64 := by omega
      have d1 : decide ((i : Int) < 64) = true := decide_eq_true (by omega)
      have p9 : (0 ≤ (i : Int)) = True := eq_true (by omega)
      have q9 : ((i : Int) < 64) = True := eq_true (by omega)
      obtain ⟨x, hx⟩ : ∃ x, rounds ws v i = x := ⟨_, rfl⟩
      obtain ⟨ci, hci⟩ : ∃ x, K.getD i 0 = x := ⟨_, rfl⟩
      obtain ⟨wi, hwi⟩ : ∃ x, ws.getD i 0 = x := ⟨_, rfl⟩
      have HNX := Aside0.mk (show rounds ws v (i + 1) = stepV x (ci + wi) from by rw [rounds, hx, hci, hwi, step_round])
      rw [hx] at HK
      go_wp2
      have HK2 := Aside0.mk (HK.out.keep (below_drew (Below.refl _ wr)))
      have g1 := word_at (i := i) HK2.out.kb hi
      have g2 := word_at (i := i) HK2.out.wb (by rw [HWL.out]; exact hi)
      rw [hci] at g1
      rw [hwi] at g2
      have HELD := Aside0.mk (show wr.drew.rangeAt p7 0 (x.words.map wcell) ∧ wr.drew.cell? ⟨p6, i, none⟩ = some (.int .u32 (U ci)) ∧ wr.drew.cell? ⟨p5, i, none⟩ = some (.int .u32 (U wi)) from ⟨range_row HK2.out.xb, g1, g2⟩)
      have HC := Aside0.mk (show Calls Tryd.prog 54 #[.agg (x.words.map wcell).toArray, .int .u32 (U (ci + wi))] wr.drew fun e w' => e = .returned (.agg (stepV x (ci + wi)).cells) ∧ Below wr.drew.heap.size wr.drew w' from step_calls x (ci + wi) wr.drew)
      obtain ⟨y, hy⟩ : ∃ y, stepV x (ci + wi) = y := ⟨_, rfl⟩
      rw [hy] at HC HNX
      clear g1 g2 hx hci hwi HK hy hi
      refine wp_region_but 9 (fun W => W.rangeAt p7 0 (x.words.map wcell) ∧ W.cell? ⟨p6, i, none⟩ = some (.int .u32 (U ci)) ∧ W.cell? ⟨p5, i, none⟩ = some (.int .u32 (U wi))) (by kernel_rfl) ?_
      refine wpAnyB_load (i := 0) rfl (by kernel_rfl) (by kernel_rfl) (by kernel_rfl) (by decide) (by kernel_rfl) (by kernel_rfl) (fun _ _ _ h => h) (yieldsIf_load_mid (by kernel_rfl) 70 (.tmp 7) rfl p7 0 rfl (x.words.map wcell) _ (fun w h => h.1) Tryd.underlying70 rfl (by kernel_rfl)) HELD.out ?_
      try simp only [Act.put, List.setIfInBounds_toArray, List.set_cons_zero, List.set_cons_succ]
      refine wpAnyB_take (i := 1) rfl (by kernel_rfl) (by kernel_rfl) (by kernel_rfl) (by decide) (fun _ _ _ h => h) (Or.inl ⟨by kernel_rfl, fun w _ => by go_simp <;> with_reducible rfl⟩) (fun _ => HELD.out) ?_
      try simp only [Act.put, List.setIfInBounds_toArray, List.set_cons_zero, List.set_cons_succ]
      refine wpAnyB_take (i := 2) rfl (by kernel_rfl) (by kernel_rfl) (by kernel_rfl) (by decide) (fun _ _ _ h => h) (Or.inl ⟨by kernel_rfl, fun w _ => by go_simp <;> with_reducible rfl⟩) (fun _ => HELD.out) ?_
      try simp only [Act.put, List.setIfInBounds_toArray, List.set_cons_zero, List.set_cons_succ]
      refine wpAnyB_load (i := 3) rfl (by kernel_rfl) (by kernel_rfl) (by kernel_rfl) (by decide) (by kernel_rfl) (by kernel_rfl) (fun _ _ _ h => h) (Or.inl ⟨by kernel_rfl, fun w hS => by obtain ⟨_, c1, c2⟩ := hS; go_simp <;> with_reducible rfl⟩) HELD.out ?_
      try simp only [Act.put, List.setIfInBounds_toArray, List.set_cons_zero, List.set_cons_succ]
      refine wpAnyB_take (i := 4) rfl (by kernel_rfl) (by kernel_rfl) (by kernel_rfl) (by decide) (fun _ _ _ h => h) (Or.inl ⟨by kernel_rfl, fun w _ => by go_simp <;> with_reducible rfl⟩) (fun _ => HELD.out) ?_
      try simp only [Act.put, List.setIfInBounds_toArray, List.set_cons_zero, List.set_cons_succ]
      refine wpAnyB_take (i := 5) rfl (by kernel_rfl) (by kernel_rfl) (by kernel_rfl) (by decide) (fun _ _ _ h => h) (Or.inl ⟨by kernel_rfl, fun w _ => by go_simp <;> with_reducible rfl⟩) (fun _ => HELD.out) ?_
      try simp only [Act.put, List.setIfInBounds_toArray, List.set_cons_zero, List.set_cons_succ]
      refine wpAnyB_load (i := 6) rfl (by kernel_rfl) (by kernel_rfl) (by kernel_rfl) (by decide) (by kernel_rfl) (by kernel_rfl) (fun _ _ _ h => h) (Or.inl ⟨by kernel_rfl, fun w hS => by obtain ⟨_, c1, c2⟩ := hS; go_simp <;> with_reducible rfl⟩) HELD.out ?_
      try simp only [Act.put, List.setIfInBounds_toArray, List.set_cons_zero, List.set_cons_succ]
      refine wpAnyB_take (i := 7) rfl (by kernel_rfl) (by kernel_rfl) (by kernel_rfl) (by decide) (fun _ _ _ h => h) (Or.inl ⟨by kernel_rfl, fun w _ => by go_simp <;> with_reducible rfl⟩) (fun _ => HELD.out) ?_
      try simp only [Act.put, List.setIfInBounds_toArray, List.set_cons_zero, List.set_cons_succ]
      refine wpAnyB_one (i := 8) rfl (by kernel_rfl) (fun K9 hK => ?_)
      rw [if_pos (by kernel_rfl)]
      go_simp
      with_reducible refine HC.out.mono ?_
      rintro e w4_ ⟨rfl, hb4⟩
      have HK4 := Aside0.mk (HK2.out.keep hb4)
      have HELD4 := Aside0.mk (show w4_.rangeAt p7 0 (x.words.map wcell) ∧ w4_.cell? ⟨p6, i, none⟩ = some (.int .u32 (U ci)) ∧ w4_.cell? ⟨p5, i, none⟩ = some (.int .u32 (U wi)) from ⟨range_row HK4.out.xb, by
        have z := HK2.out.lt; have z7 := HK2.out.o7; unfold World.cell?; rw [hb4.block _ (by show p6 < _; omega)]; exact HELD.out.2.1, by
        have z := HK2.out.lt; have z7 := HK2.out.o7; have z6 := HK2.out.o6; unfold World.cell?; rw [hb4.block _ (by show p5 < _; omega)]; exact HELD.out.2.2⟩)
      refine hK _ _ (fun _ => HELD4.out) ?_
      clear hK K9 HELD HC hb4
      try simp only [Act.put, List.setIfInBounds_toArray, List.set_cons_zero, List.set_cons_succ]
      refine wpAnyB_one (i := 9) rfl (by kernel_rfl) (fun K9 hK => ?_)
      rw [if_pos (by kernel_rfl)]
      refine wp_store_mid 70 (.tmp 7) (.tmp 26) rfl p7 0 y.cells rfl rfl (fun j hj => ⟨HELD4.out.1.isSome j hj, fro_of HK4.out.xb _⟩) (by kernel_rfl) (by kernel_rfl) ?_
      refine hK _ _ (fun h => Bool.noConfusion (h.symm.trans (show _ = true by kernel_rfl))) ?_
      have HK5 := Aside0.mk (HK4.out.put y rfl)
      generalize w4_.setCells p7 0 y.cells.toList = w5_ at HK5 ⊢
      refine wpAnyB_done (by kernel_rfl) ?_ _
      clear hK K9 HELD4 HK4 HK2
      try simp only [Act.put, List.setIfInBounds_toArray, List.set_cons_zero, List.set_cons_succ]
      go_wp2
      go_roundg k1
      case measure => omega
      case rel =>
        refine ⟨i + 1, by omega, by go_num, ⟨?_⟩⟩
        rw [HNX.out]
        exact HK5.out
end Go.Proofs.YtglhbbijoeeclaaDoor.Sha
/- By a program of this session's: a plain Lean function for a Go function, and its contract. -/
namespace Go.Proofs.YtglhbbijoeeclaaDoor.Q
open Go.RowKit Go.Proofs.YtglhbbijoeeclaaDoorW.PrintWords Go.Proofs.YtglhbbijoeeclaaDoorW.PrintLast Go.Proofs.YtglhbbijoeeclaaDoorW.PrintMore
attribute [local go_sem] max2_int min2_int max_two min_two max_three min_three max_four min_four Go.Proofs.YtglhbbijoeeclaaDoor.Ord.str_leq Go.Proofs.YtglhbbijoeeclaaDoor.Ord.str_gtr Go.Proofs.YtglhbbijoeeclaaDoor.Ord.str_geq   -- for this text's walks alone
set_option linter.unusedVariables false
set_option linter.unusedSimpArgs false

/-! ### depotref01_Pad: function 38 -/
mutual
def depotref01_Pad.l0 : Nat → Int → ByteArray → Option (ByteArray)
  | 0, _, _ => none
  | k + 1, x0, x3 => if (Int.tmod (wrap64 ((Int.tmod x0 64) + (x3.size : Int))) 64) = 56 then (depotref01_Pad.l1 k x3 (IntKind.u64.wrap ((IntKind.u64.wrap (x0)) * 8)) 7) else (if x3.size + 1 ≤ 9223372036854775807 then (depotref01_Pad.l0 k x0 (x3 ++ (⟨#[0]⟩ : ByteArray))) else (none))
def depotref01_Pad.l1 : Nat → ByteArray → Int → Int → Option (ByteArray)
  | 0, _, _, _ => none
  | k + 1, x3, x4, x5 => if x5 ≥ 0 then (if 0 ≤ (IntKind.u64.wrap (wrap64 (8 * x5))) then ((some (([(Go.bits .and .u64 (shr .u64 x4 (IntKind.u64.wrap (wrap64 (8 * x5)))) 255) % 256] : List Int) : List Int)).bind fun y160 => (if x3.size + (strOfNums y160).size ≤ 9223372036854775807 then (depotref01_Pad.l1 k (x3 ++ (strOfNums y160)) x4 (wrap64 (x5 - 1))) else (none))) else (none)) else (some x3)
end
def depotref01_Pad.f (k : Nat) (a0 : Int) : Option (ByteArray) := if a0 < 0 then (some (⟨#[]⟩ : ByteArray)) else (depotref01_Pad.l0 k a0 (⟨#[128]⟩ : ByteArray))
theorem depotref01_Pad.mono_l : ∀ k, (∀ y0 y1, LeO (depotref01_Pad.l0 k y0 y1) (depotref01_Pad.l0 (k + 1) y0 y1)) ∧ (∀ y0 y1 y2, LeO (depotref01_Pad.l1 k y0 y1 y2) (depotref01_Pad.l1 (k + 1) y0 y1 y2))
  | 0 => ⟨fun _ _ r h => by simp [depotref01_Pad.l0] at h, fun _ _ _ r h => by simp [depotref01_Pad.l1] at h⟩
  | k + 1 => by
    obtain ⟨ih0, ih1⟩ := depotref01_Pad.mono_l k
    refine ⟨?_, ?_⟩
    · intro y0 y1
      unfold depotref01_Pad.l0
      repeat' first
      | (with_reducible exact ih0 _ _)
      | (with_reducible exact ih1 _ _ _)
      | (with_reducible exact LeO.refl _)
      | (with_reducible exact LeO.none _)
      | (with_reducible refine LeO.ite ?_ ?_)
      | (with_reducible refine LeO.bind ?_ (fun _ => ?_))
      | exact ih0 _ _
      | exact ih1 _ _ _
      | exact LeO.none _
      | refine LeO.ite ?_ ?_
      | refine LeO.bind ?_ (fun _ => ?_)
    · intro y0 y1 y2
      unfold depotref01_Pad.l1
      repeat' first
      | (with_reducible exact ih0 _ _)
      | (with_reducible exact ih1 _ _ _)
      | (with_reducible exact LeO.refl _)
      | (with_reducible exact LeO.none _)
      | (with_reducible refine LeO.ite ?_ ?_)
      | (with_reducible refine LeO.bind ?_ (fun _ => ?_))
      | exact ih0 _ _
      | exact ih1 _ _ _
      | exact LeO.none _
      | refine LeO.ite ?_ ?_
      | refine LeO.bind ?_ (fun _ => ?_)
theorem depotref01_Pad.mono : ∀ a0 k, LeO (depotref01_Pad.f k a0) (depotref01_Pad.f (k + 1) a0) := by
  intro a0 k
  obtain ⟨ih0, ih1⟩ := depotref01_Pad.mono_l k
  unfold depotref01_Pad.f
  repeat' first
      | (with_reducible exact ih0 _ _)
      | (with_reducible exact ih1 _ _ _)
      | (with_reducible exact LeO.refl _)
      | (with_reducible exact LeO.none _)
      | (with_reducible refine LeO.ite ?_ ?_)
      | (with_reducible refine LeO.bind ?_ (fun _ => ?_))
      | exact ih0 _ _
      | exact ih1 _ _ _
      | exact LeO.none _
      | refine LeO.ite ?_ ?_
      | refine LeO.bind ?_ (fun _ => ?_)
set_option maxHeartbeats 8000000 in
set_option maxRecDepth 100000 in
theorem depotref01_Pad.calls (k : Nat) (a0 : Int) (r : ByteArray) (w : World) (h : depotref01_Pad.f k a0 = some r) :
    Calls Tryd.prog 38 #[.int .i64 a0] w fun e w' => e = .returned (.string r) ∧ Below w.heap.size w w' := by
  have HB := Aside0.mk (Below.refl w.heap.size w)
  have H : (if a0 < 0 then (some (⟨#[]⟩ : ByteArray)) else (depotref01_Pad.l0 k a0 (⟨#[128]⟩ : ByteArray))) = some r := h
  clear h
  by_cases c2 : a0 < 0
  · rw [if_pos c2] at H
    have c2b0 : decide (a0 < 0) = true := decide_eq_true c2
    clear c2
    obtain rfl := Option.some.inj H
    go_enter Tryd.func38, Tryd.ntmps38
    go_wp2
    go_ret
    exact ⟨by first | rfl | (simp [errW_none, errW_some] <;> rfl) | (simp [*, errW_none, errW_some] <;> rfl), by repeat (first | (with_reducible first | exact HB.out | apply below_alloc | apply pw_below_drewN | apply below_drew1) | exact HB.out)⟩
  · rw [if_neg c2] at H
    have c2b0 : decide (a0 < 0) = false := decide_eq_false c2
    clear c2
    have H' := Aside0.mk H
    clear H
    go_enter Tryd.func38, Tryd.ntmps38
    go_wp2
    go_loopg [3] k (fun kq v3 w' => ∃ (x3_1 : ByteArray), v3 = .string x3_1 ∧ Aside0 (depotref01_Pad.l0 kq a0 x3_1 = some r) ∧ Aside0 (kq ≤ k) ∧ Aside0 (Below w.heap.size w w'))
    case atStart => exact ⟨((⟨#[128]⟩ : ByteArray)), (by first | rfl | (simp; done) | (simp [*]; done)), H', ⟨Nat.le_refl _⟩, ⟨by repeat (first | (with_reducible first | exact HB.out | apply below_alloc | apply pw_below_drewN | apply below_drew1) | exact HB.out)⟩⟩
    case round =>
      clear H'
      try clear c2
      try clear c2b0
      try clear p2
      obtain ⟨x3_1, rfl, HA, HK1, HB⟩ := hrel
      cases gk with
      | zero => exact absurd HA.out (by simp [depotref01_Pad.l0])
      | succ k1 =>
        have H := HA.out
        clear HA
        simp only [depotref01_Pad.l0] at H
        by_cases c3 : (Int.tmod (wrap64 ((Int.tmod a0 64) + (x3_1.size : Int))) 64) = 56
        · rw [if_pos c3] at H
          have c3b0 : ((Int.tmod (wrap64 ((Int.tmod a0 64) + (x3_1.size : Int))) 64) == 56) = true := beq_iff_eq.mpr c3
          have c3b1 : ((Int.tmod (wrap64 ((Int.tmod a0 64) + (x3_1.size : Int))) 64) != 56) = false := bne_eq_false_iff_eq.mpr c3
          clear c3
          have H' := Aside0.mk H
          clear H
          go_wp2
          go_loopg [3, 5] k1 (fun kq v3 v5 w' => ∃ (x3_2 : ByteArray) (x5_2 : Int), v3 = .string x3_2 ∧ v5 = .int .i64 x5_2 ∧ Aside0 (depotref01_Pad.l1 kq x3_2 (IntKind.u64.wrap ((IntKind.u64.wrap (a0)) * 8)) x5_2 = some r) ∧ Aside0 (kq ≤ k1) ∧ Aside0 (Below w.heap.size w w'))
          case atStart => exact ⟨(x3_1), (7), (by first | rfl | (simp; done) | (simp [*]; done)), (by first | rfl | (simp; done) | (simp [*]; done)), H', ⟨Nat.le_refl _⟩, ⟨by repeat (first | (with_reducible first | exact HB.out | apply below_alloc | apply pw_below_drewN | apply below_drew1) | exact HB.out)⟩⟩
          case round =>
            clear H'
            try clear c2
            try clear c2b0
            try clear p2
            try clear c3
            try clear c3b0
            try clear c3b1
            try clear p2
            obtain ⟨x3_2, x5_2, rfl, rfl, HA, HK2, HB⟩ := hrel
            cases gk with
            | zero => exact absurd HA.out (by simp [depotref01_Pad.l1])
            | succ k2 =>
              have H := HA.out
              clear HA
              simp only [depotref01_Pad.l1] at H
              by_cases c4 : x5_2 ≥ 0
              · rw [if_pos c4] at H
                have c4b0 : decide (0 ≤ x5_2) = true := decide_eq_true c4
                clear c4
                obtain ⟨ji5, hji5⟩ : ∃ j_ : Int, (IntKind.u64.wrap (wrap64 (8 * x5_2))) = j_ := ⟨_, rfl⟩
                replace H : (if 0 ≤ (ji5) then ((some (([(Go.bits .and .u64 (shr .u64 (IntKind.u64.wrap ((IntKind.u64.wrap (a0)) * 8)) (ji5)) 255) % 256] : List Int) : List Int)).bind fun y160 => (if x3_2.size + (strOfNums y160).size ≤ 9223372036854775807 then (depotref01_Pad.l1 k2 (x3_2 ++ (strOfNums y160)) (IntKind.u64.wrap ((IntKind.u64.wrap (a0)) * 8)) (wrap64 (x5_2 - 1))) else (none))) else (none)) = some r := by first | (rw [hji5] at H; exact H) | (simp only [hji5] at H ⊢; exact H)
                by_cases c6 : 0 ≤ (ji5)
                · rw [if_pos c6] at H
                  have c6b0 := eq_true c6
                  have c6b1 : decide (0 ≤ (ji5)) = true := decide_eq_true c6
                  clear c6
                  obtain ⟨ji7, hji7⟩ : ∃ j_ : Int, (shr .u64 (IntKind.u64.wrap ((IntKind.u64.wrap (a0)) * 8)) (ji5)) = j_ := ⟨_, rfl⟩
                  replace H : ((some (([(Go.bits .and .u64 (ji7) 255) % 256] : List Int) : List Int)).bind fun y160 => (if x3_2.size + (strOfNums y160).size ≤ 9223372036854775807 then (depotref01_Pad.l1 k2 (x3_2 ++ (strOfNums y160)) (IntKind.u64.wrap ((IntKind.u64.wrap (a0)) * 8)) (wrap64 (x5_2 - 1))) else (none))) = some r := by first | (rw [hji7] at H; exact H) | (simp only [hji7] at H ⊢; exact H)
                  have hji7_ : ((IntKind.u64.wrap ((IntKind.u64.wrap (a0)) * 8)) / 2 ^ min (ji5).toNat 64) = ji7 := hji7
                  have hji7z : (ji5) ≤ 64 → ((IntKind.u64.wrap ((IntKind.u64.wrap (a0)) * 8)) / 2 ^ (ji5).toNat) = ji7 := shr_small hji7
                  obtain ⟨y160, hy160⟩ : ∃ y_ : List Int, y_ = (([(Go.bits .and .u64 (ji7) 255) % 256] : List Int)) := ⟨_, rfl⟩
                  replace H : (if x3_2.size + (strOfNums y160).size ≤ 9223372036854775807 then (depotref01_Pad.l1 k2 (x3_2 ++ (strOfNums y160)) (IntKind.u64.wrap ((IntKind.u64.wrap (a0)) * 8)) (wrap64 (x5_2 - 1))) else (none)) = some r := by first | (rw [hy160]; with_reducible exact H) | (have H2_ := (Option.bind_some _ _).symm.trans H; rw [hy160]; with_reducible exact H2_) | (have H2_ := (Option.bind_some _ _).symm.trans H; with_reducible exact H2_) | with_reducible exact H | (rw [hy160]; exact H) | exact H
                  have Ny160 := Aside0.mk hy160
                  clear hy160
                  by_cases c8 : x3_2.size + (strOfNums y160).size ≤ 9223372036854775807
                  · rw [if_pos c8] at H
                    have c8b0 := eq_true c8
                    have c8b1 : decide (x3_2.size + (strOfNums y160).size ≤ 9223372036854775807) = true := decide_eq_true c8
                    try have c8b2 : (9223372036854775807 < x3_2.size + (strOfNums y160).size) = False := eq_false (Nat.not_lt.2 c8)
                    have H' := Aside0.mk H
                    clear H
                    go_wp2_with (first | ((with_reducible refine gate_dst (N := 32) rfl ?_); refine Kd.R_lit (Kd.int .u8) _ 5 ?hg (N := 32) ?hd (xs := ([(Go.bits .and .u64 (ji7) 255) % 256] : List Int)) (inner := [.int .u8 ((Go.bits .and .u64 (ji7) 255) % 256)]) (ok := fun _ => True) (okp := fun _ => True) ?hr ?hp (fun _ hk => hk) trivial (Below.refl _ _) (Nat.le_refl _) (by simp) ?_; (case hd => rfl); (case hg => rfl); (case hr => first | (go_simp; done) | (go_simp; rfl)); (case hp => exact (Reps.one (show Kd.M (Kd.int .u8) _ _ _ ((Go.bits .and .u64 (ji7) 255) % 256) [.int .u8 ((Go.bits .and .u64 (ji7) 255) % 256)] from rfl) (Reps.none _ _))); intro v161 w9 ho10 hb hg_ hnew_; clear hg_ hnew_; (first | rw [← Ny160.out] at ho10 | (simp only [Int.reduceToNat] at ho10; rw [← Ny160.out] at ho10)); have n0_ := Aside0.mk (Kd.R_lower ho10 (below_size (by repeat (first | (with_reducible first | exact HB.out | apply below_alloc | apply pw_below_drewN | apply below_drew1) | exact HB.out)))); have n1_ := Aside0.mk (below_step (by repeat (first | (with_reducible first | exact HB.out | apply below_alloc | apply pw_below_drewN | apply below_drew1) | exact HB.out)) hb); clear HB; have HO162 := n0_; have HB := n1_; clear n0_ n1_; clear hb ho10; have hcv11 := own_string (P := Tryd.prog) Tryd.underlying34 Tryd.underlying5 Tryd.underlying9 (Kd.own_of_R HO162.out)))
                    go_roundg k2
                    case measure => have := HK1.out; have := HK2.out; omega
                    case rel => exact ⟨(x3_2 ++ (strOfNums y160)), (wrap64 (x5_2 - 1)), (by first | rfl | (simp; done) | (simp [*]; done)), (by first | rfl | (simp; done) | (simp [*]; done)), H', ⟨by have := HK1.out; have := HK2.out; omega⟩, ⟨by repeat (first | (with_reducible first | exact HB.out | apply below_alloc | apply pw_below_drewN | apply below_drew1) | exact HB.out)⟩⟩
                  · rw [if_neg c8] at H
                    exact absurd H (by simp)
                · rw [if_neg c6] at H
                  exact absurd H (by simp)
              · rw [if_neg c4] at H
                have c4b0 : decide (0 ≤ x5_2) = false := decide_eq_false c4
                clear c4
                obtain rfl := Option.some.inj H
                go_wp2
                go_ret
                exact ⟨by first | rfl | (simp [errW_none, errW_some] <;> rfl) | (simp [*, errW_none, errW_some] <;> rfl), by repeat (first | (with_reducible first | exact HB.out | apply below_alloc | apply pw_below_drewN | apply below_drew1) | exact HB.out)⟩
        · rw [if_neg c3] at H
          have c3b0 : ((Int.tmod (wrap64 ((Int.tmod a0 64) + (x3_1.size : Int))) 64) == 56) = false := beq_eq_false_iff_ne.mpr c3
          have c3b1 : ((Int.tmod (wrap64 ((Int.tmod a0 64) + (x3_1.size : Int))) 64) != 56) = true := bne_iff_ne.mpr c3
          by_cases c12 : x3_1.size + 1 ≤ 9223372036854775807
          · rw [if_pos c12] at H
            have c12b0 := eq_true c12
            have c12b1 : decide (x3_1.size + 1 ≤ 9223372036854775807) = true := decide_eq_true c12
            try have c12b2 : (9223372036854775807 < x3_1.size + 1) = False := eq_false (Nat.not_lt.2 c12)
            have H' := Aside0.mk H
            clear H
            go_wp2
            go_roundg k1
            case measure => have := HK1.out; omega
            case rel => exact ⟨(x3_1 ++ (⟨#[0]⟩ : ByteArray)), (by first | rfl | (simp; done) | (simp [*]; done)), H', ⟨by have := HK1.out; omega⟩, ⟨by repeat (first | (with_reducible first | exact HB.out | apply below_alloc | apply pw_below_drewN | apply below_drew1) | exact HB.out)⟩⟩
          · rw [if_neg c12] at H
            exact absurd H (by simp)

end Go.Proofs.YtglhbbijoeeclaaDoor.Q
/- The document's Pad is pad (plain). -/
namespace Go.Proofs.YtglhbbijoeeclaaDoor.Sha
open Go.RowKit Go.Proofs.YtglhbbijoeeclaaDoorW.PrintWords Go.Proofs.YtglhbbijoeeclaaDoorW.PrintLast Go.Proofs.YtglhbbijoeeclaaDoorW.PrintMore Go.Proofs.YtglhbbijoeeclaaDoor.Bytes Go.Proofs.YtglhbbijoeeclaaDoor.Q Go.Proofs.YtglhbbijoeeclaaDoor.Evs
set_option linter.unusedVariables false
set_option linter.unusedSimpArgs false
theorem nums_one (v : Int) : bs (strOfNums [v]) = [UInt8.ofNat v.toNat] := by
  unfold strOfNums bs
  simp
/-- The bytes of a number, the highest first. -/
def be8 (m : Nat) : Nat → List UInt8
  | 0 => []
  | d + 1 => UInt8.ofNat (nib m d).toNat :: be8 m d
theorem rpad_l1 (m : Nat) (hm : m < 18446744073709551616) (d : Nat) : ∀ (s : ByteArray), d ≤ 8 → (bs s).length + d ≤ 1000 → Ev (fun k => depotref01_Pad.l1 k s (m : Int) ((d : Int) - 1)) ⟨(bs s ++ be8 m d).toArray⟩ := by
  induction d with
  | zero =>
    intro s _ _
    refine succ ?_
    simp only [depotref01_Pad.l1]
    refine neg (by omega) (now (congrArg some ?_))
    apply bs_inj
    rw [be8, List.append_nil]
    exact (bs_mk (bs s)).symm
  | succ d ih =>
    intro s hd hl
    refine succ ?_
    simp only [depotref01_Pad.l1]
    have e0 : ((d + 1 : Nat) : Int) - 1 = (d : Int) := by omega
    have e1 : wrap64 (8 * (d : Int)) = ((8 * d : Nat) : Int) := by rw [w64 (by omega) (by omega)]; omega
    have e2 : IntKind.u64.wrap ((8 * d : Nat) : Int) = ((8 * d : Nat) : Int) := by rw [IntKind.wrap_u64]; omega
    have e3 : shr .u64 (m : Int) ((8 * d : Nat) : Int) = ((m / 2 ^ (8 * d) : Nat) : Int) := by
      unfold shr
      rw [Int.toNat_natCast, Nat.min_eq_left (by show 8 * d ≤ 64; omega), Int.natCast_ediv, Int.natCast_pow]
      rfl
    have hq : m / 2 ^ (8 * d) ≤ m := Nat.div_le_self _ _
    have e4 : Go.bits .and .u64 ((m / 2 ^ (8 * d) : Nat) : Int) 255 % 256 = nib m d := by
      rw [show (255 : Int) = ((255 : Nat) : Int) from rfl, u64_and_nat _ _ (by omega) (by omega)]
      unfold nib
      have := Nat.and_two_pow_sub_one_eq_mod (m / 2 ^ (8 * d)) 8
      rw [show (255 : Nat) = 2 ^ 8 - 1 from rfl, this]
      omega
    rw [e0, e1, e2, e3, e4]
    have hz : (strOfNums [nib m d]).size = 1 := by rw [size_bs, nums_one]; rfl
    refine pos (by omega) (pos (by omega) (call rfl (pos (by rw [hz, size_bs]; omega) ?_)))
    have ew : wrap64 ((d : Int) - 1) = (d : Int) - 1 := w64 (by omega) (by omega)
    rw [ew]
    have h := ih (s ++ strOfNums [nib m d]) (by omega) (by rw [bs_append, List.length_append, nums_one, List.length_singleton]; omega)
    rw [bs_append, nums_one, List.append_assoc] at h
    exact h
theorem rpad_l0 (n z : Nat) (hn : n < 1152921504606846976) (hz : z = (119 - n % 64) % 64) (d : Nat) : ∀ j, j + d = z → Ev (fun k => depotref01_Pad.l0 k (n : Int) ⟨(128 :: List.replicate j 0).toArray⟩) ⟨((128 :: List.replicate z 0) ++ be8 (n * 8) 8).toArray⟩ := by
  have ht : ∀ j, j ≤ 64 → Int.tmod (wrap64 (Int.tmod (n : Int) 64 + (((⟨(128 :: List.replicate j 0).toArray⟩ : ByteArray).size : Nat) : Int))) 64 = (((n % 64 + 1 + j) % 64 : Nat) : Int) := by
    intro j hj
    have t1 : Int.tmod (n : Int) 64 = ((n % 64 : Nat) : Int) := rfl
    have hsz : (⟨(128 :: List.replicate j 0).toArray⟩ : ByteArray).size = j + 1 := by rw [size_bs, bs_mk, List.length_cons, List.length_replicate]
    rw [t1, hsz, w64 (by omega) (by omega), show ((n % 64 : Nat) : Int) + ((j + 1 : Nat) : Int) = ((n % 64 + 1 + j : Nat) : Int) from by omega]
    rfl
  induction d with
  | zero =>
    intro j hj
    obtain rfl : j = z := by omega
    refine succ ?_
    simp only [depotref01_Pad.l0]
    rw [ht j (by omega)]
    refine pos (by omega) ?_
    have e1 : IntKind.u64.wrap (n : Int) = (n : Int) := by rw [IntKind.wrap_u64]; omega
    have e2 : IntKind.u64.wrap ((n : Int) * 8) = ((n * 8 : Nat) : Int) := by rw [IntKind.wrap_u64]; omega
    rw [e1, e2]
    have h := rpad_l1 (n * 8) (by omega) 8 ⟨(128 :: List.replicate j 0).toArray⟩ (by omega) (by rw [bs_mk, List.length_cons, List.length_replicate]; omega)
    rw [bs_mk] at h
    exact h
  | succ d ih =>
    intro j hj
    refine succ ?_
    simp only [depotref01_Pad.l0]
    rw [ht j (by omega)]
    refine neg (by omega) (pos (by rw [size_bs, bs_mk, List.length_cons, List.length_replicate]; omega) ?_)
    have e : (⟨(128 :: List.replicate j 0).toArray⟩ : ByteArray) ++ (⟨#[0]⟩ : ByteArray) = ⟨(128 :: List.replicate (j + 1) 0).toArray⟩ := by
      apply bs_inj
      rw [bs_append, bs_mk, bs_mk, List.replicate_succ', List.cons_append]
      rfl
    rw [e]
    exact ih (j + 1) (by omega)
theorem rpad (n : Nat) (hn : n < 1152921504606846976) : Ev (fun k => depotref01_Pad.f k (n : Int)) ⟨(pad n).toArray⟩ := by
  unfold depotref01_Pad.f
  refine neg (by omega) ?_
  have h := rpad_l0 n _ hn rfl ((119 - n % 64) % 64) 0 (by omega)
  have e : (128 :: List.replicate ((119 - n % 64) % 64) 0) ++ be8 (n * 8) 8 = pad n := by
    unfold pad be8 be8 be8 be8 be8 be8 be8 be8 be8
    rw [nib_byte (n * 8) 7 72057594037927936 rfl, nib_byte (n * 8) 6 281474976710656 rfl, nib_byte (n * 8) 5 1099511627776 rfl, nib_byte (n * 8) 4 4294967296 rfl, nib_byte (n * 8) 3 16777216 rfl, nib_byte (n * 8) 2 65536 rfl, nib_byte (n * 8) 1 256 rfl, nib_byte (n * 8) 0 1 rfl, Nat.div_one]
    rfl
  rw [e] at h
  exact h
end Go.Proofs.YtglhbbijoeeclaaDoor.Sha
/- The document's SHA-256: Of. -/
namespace Go.Proofs.YtglhbbijoeeclaaDoor.Sha
open Go.RowKit Go.Proofs.YtglhbbijoeeclaaDoor.Q Go.Proofs.YtglhbbijoeeclaaDoorW.PrintWords Go.Proofs.YtglhbbijoeeclaaDoorW.PrintLast Go.Proofs.YtglhbbijoeeclaaDoorW.PrintMore Go.Proofs.YtglhbbijoeeclaaDoor.Bytes
set_option linter.unusedVariables false
set_option linter.unusedSimpArgs false
/-- The block at work: i bytes of a list, then noughts. -/
def part (l : List UInt8) (i : Nat) : List UInt8 := l.take i ++ List.replicate (64 - i) 0
theorem part_len (l : List UInt8) (i : Nat) (hi : i ≤ 64) (hl : i ≤ l.length) : (part l i).length = 64 := by
  rw [part, List.length_append, List.length_take, List.length_replicate]
  omega
theorem part_set (l : List UInt8) (i : Nat) (hi : i < 64) (hl : i < l.length) : (part l i).set i (l[i]) = part l (i + 1) := by
  unfold part
  have ht : (l.take i).length = i := by rw [List.length_take]; omega
  obtain ⟨m, hm⟩ : ∃ m, 64 - i = m + 1 := ⟨63 - i, by omega⟩
  rw [List.set_append_right _ _ (by omega), ht, Nat.sub_self, hm, show 64 - (i + 1) = m from by omega, List.replicate_succ, List.set_cons_zero, List.take_succ_eq_append_getElem hl, List.append_assoc]
  rfl
theorem part_zero (l : List UInt8) : part l 0 = List.replicate 64 0 := by simp [part]
theorem part_all (l : List UInt8) : part l 64 = l.take 64 := by simp [part]
/-- The digest at work. -/
def dpart (l : List UInt8) (i : Nat) : List UInt8 := l.take i ++ List.replicate (32 - i) 0
theorem dpart_len (l : List UInt8) (i : Nat) (hi : i ≤ 32) (hl : i ≤ l.length) : (dpart l i).length = 32 := by
  rw [dpart, List.length_append, List.length_take, List.length_replicate]
  omega
theorem dpart_set (l : List UInt8) (i : Nat) (hi : i < 32) (hl : i < l.length) : (dpart l i).set i (l[i]) = dpart l (i + 1) := by
  unfold dpart
  have ht : (l.take i).length = i := by rw [List.length_take]; omega
  obtain ⟨m, hm⟩ : ∃ m, 32 - i = m + 1 := ⟨31 - i, by omega⟩
  rw [List.set_append_right _ _ (by omega), ht, Nat.sub_self, hm, show 32 - (i + 1) = m from by omega, List.replicate_succ, List.set_cons_zero, List.take_succ_eq_append_getElem hl, List.append_assoc]
  rfl
theorem dpart_next (l : List UInt8) (i : Nat) (hi : i < 32) (z : UInt8) (hz : l[i]? = some z) : (dpart l i).set i z = dpart l (i + 1) := by
  obtain ⟨hl, e⟩ := List.getElem?_eq_some_iff.1 hz
  rw [← e]
  exact dpart_set l i hi hl
theorem digest_at (v : V8) (c : Nat) (hc : c < 8) : (digest v)[4 * c]? = some (UInt8.ofNat ((v.words.getD c 0).toNat >>> 24)) ∧ (digest v)[4 * c + 1]? = some (UInt8.ofNat ((v.words.getD c 0).toNat >>> 16)) ∧ (digest v)[4 * c + 2]? = some (UInt8.ofNat ((v.words.getD c 0).toNat >>> 8)) ∧ (digest v)[4 * c + 3]? = some (UInt8.ofNat (v.words.getD c 0).toNat) := by
  match c, hc with
  | 0, _ => exact ⟨rfl, rfl, rfl, rfl⟩
  | 1, _ => exact ⟨rfl, rfl, rfl, rfl⟩
  | 2, _ => exact ⟨rfl, rfl, rfl, rfl⟩
  | 3, _ => exact ⟨rfl, rfl, rfl, rfl⟩
  | 4, _ => exact ⟨rfl, rfl, rfl, rfl⟩
  | 5, _ => exact ⟨rfl, rfl, rfl, rfl⟩
  | 6, _ => exact ⟨rfl, rfl, rfl, rfl⟩
  | 7, _ => exact ⟨rfl, rfl, rfl, rfl⟩
theorem dpart_zero (l : List UInt8) : dpart l 0 = List.replicate 32 0 := by simp [dpart]
theorem blocks_step (h : V8) (l : List UInt8) (q : Nat) (hq : 64 * q + 64 ≤ l.length) : block (blocks h (l.take (64 * q))) ((l.drop (64 * q)).take 64) = blocks h (l.take (64 * (q + 1))) := by
  rw [show 64 * (q + 1) = 64 * q + 64 from by omega, List.take_add, blocks_end h _ _ (by rw [List.length_take]; omega) (by rw [List.length_take, List.length_drop]; omega)]
attribute [local go_sem] U_shr8 U_shr16 U_shr24 U_byte U_byte' u32_signed u32_max
set_option maxRecDepth 100000 in
set_option maxHeartbeats 4000000 in
theorem rof_calls (t : ByteArray) (w : World) (hn : t.size < 1000000000000) : Calls Tryd.prog 23 #[.string t] w fun e w' => e = .returned (.agg ((of t.data.toList).map bcell).toArray) ∧ Below w.heap.size w w' := by
  have HR23 : Aside0 ((Tryd.prog.info? 23).map (·.size) = some 32) := ⟨by kernel_rfl⟩
  obtain ⟨O, hO⟩ : ∃ O, of t.data.toList = O := ⟨_, rfl⟩
  obtain ⟨k, hk⟩ := rpad t.size (by omega)
  have CP := Aside0.mk (fun W => depotref01_Pad.calls k (t.size : Int) _ W (hk k (Nat.le_refl _)))
  obtain ⟨pd, hpd⟩ : ∃ pd : ByteArray, (⟨(pad t.size).toArray⟩ : ByteArray) = pd := ⟨_, rfl⟩
  have hps : pd.size = (pad t.size).length := by rw [← hpd, size_bs, bs_mk]
  have hpl := pad_len t.size
  have hpw := pad_whole t.size
  rw [hpd] at CP
  have s1 : (t.size + pd.size ≤ 9223372036854775807) = True := eq_true (by omega)
  have s2 : ((t.size : Int) + (pd.size : Int) ≤ 9223372036854775807) = True := eq_true (by omega)
  have s3 : (9223372036854775807 < t.size + pd.size) = False := eq_false (by omega)
  obtain ⟨L, hL⟩ : ∃ L, bs (t ++ pd) = L := ⟨_, rfl⟩
  have hLl : L.length = t.size + pd.size := by rw [← hL, bs_append, List.length_append, ← size_bs, ← size_bs]
  have HO : Aside0 (digest (blocks H0 L) = O) := ⟨by
    rw [← hO, ← hL, bs_append, ← hpd, bs_mk]
    unfold of
    rw [show t.data.toList.length = t.size from (Lib.size_eq t).symm]
    rfl⟩
  obtain ⟨Q, hQ⟩ : ∃ Q, L.length = 64 * Q := ⟨L.length / 64, by omega⟩
  have hQB : 64 * Q < 2000000000000 := by omega
  have HOL := Aside0.mk (show O.length = 32 from by rw [← hO]; exact of_len _)
  rw [hO]
  have HB1 := Aside0.mk ((Below.refl w.heap.size w).alloc (Nat.le_refl _) (.cells (List.replicate 32 (Value.int .u8 0)).toArray 23))
  have HX1 := Aside0.mk (World.alloc_heap_new w (.cells (List.replicate 32 (Value.int .u8 0)).toArray 23))
  have HL := Aside0.mk hL
  clear hO hk hpd hL hps hpl hpw
  go_enter Tryd.func23, Tryd.ntmps23
  go_wp2_with (first
    | (go_at_call 38; ((with_reducible refine (CP.out _).mono ?_)); rintro e w2 ⟨rfl, hb2⟩; have HB2 := Aside0.mk (HB1.out.trans (hb2.mono HB1.out.size)); have HX2 := Aside0.mk ((hb2.block _ (Array.getElem?_eq_some_iff.1 HX1.out).1).trans HX1.out); clear hb2)
    | (go_at_call 39; ((with_reducible refine (start_calls w2).mono ?_)); rintro e w3 ⟨rfl, hb3⟩; have HB3 := Aside0.mk (HB2.out.trans (hb3.mono HB2.out.size)); have HX3 := Aside0.mk ((hb3.block _ (Array.getElem?_eq_some_iff.1 HX2.out).1).trans HX2.out); clear hb3)
    | ((with_reducible refine gate_store (t := 70) (p := 4) rfl ?_); refine wpList_store_row' rfl 70 (.tmp 4) (.tmp 15) rfl w3.heap.size 70 (V8.cells ⟨0, 0, 0, 0, 0, 0, 0, 0⟩) H0.cells rfl rfl (World.alloc_heap_new w3 _) (by kernel_rfl) (by kernel_rfl) (by kernel_rfl) ?_; intro w4 hw4; have HB4 : Aside0 (Below w3.heap.size w3 w4 ∧ w4.heap[w3.heap.size]? = some (.cells H0.cells 70 (0, 0))) := ⟨by rw [hw4]; exact ⟨below_setRow ((Below.refl _ _).alloc (Nat.le_refl _) _) (Nat.le_refl _) _, setRow_heap _ _ _ _ _ _ (World.alloc_heap_new w3 _)⟩⟩; clear hw4))
  have HP4 : Aside0 (w.heap.size < w3.heap.size) := ⟨(Array.getElem?_eq_some_iff.1 HX3.out).1⟩
  have HX4 : Aside0 (w4.heap[w.heap.size]? = some (.cells (List.replicate 32 (Value.int .u8 0)).toArray 23 (0, 0))) := ⟨(HB4.out.1.block _ HP4.out).trans HX3.out⟩
  have HV4 := Aside0.mk (show w4.heap[w3.heap.size]? = some (.cells (blocks H0 (L.take (64 * 0))).cells 70 (0, 0)) from by rw [Nat.mul_zero, List.take_zero, blocks_few H0 [] (by decide)]; exact HB4.out.2)
  have HBB4 := Aside0.mk (HB3.out.trans (HB4.out.1.mono HB3.out.size))
  clear HB1 HB2 HB3 HB4 HX1 HX2 HX3
  generalize w3.heap.size = p4 at HP4 HV4 ⊢
  obtain ⟨m, hm⟩ : ∃ m, t ++ pd = m := ⟨_, rfl⟩
  rw [hm]
  have HLM : Aside0 (bs m = L) := ⟨by rw [← hm]; exact HL.out⟩
  have hmz : m.size = 64 * Q := by rw [size_bs, HLM.out]; exact hQ
  clear hm s1 s2 s3 HL hLl
  go_loopg [5] Q (fun g v5 wx => ∃ q : Nat, q + g = Q ∧ v5 = .int .i64 ((64 * q : Nat) : Int) ∧ Aside0 (wx.heap[p4]? = some (.cells (blocks H0 (L.take (64 * q))).cells 70 (0, 0))) ∧ Aside0 (Below w.heap.size w wx) ∧ Aside0 (wx.heap[w.heap.size]? = some (.cells (List.replicate 32 (Value.int .u8 0)).toArray 23 (0, 0))))
  case atStart => exact ⟨0, by omega, rfl, HV4, HBB4, HX4⟩
  case round =>
    clear HV4 HBB4 HX4
    obtain ⟨q, hqg, rfl, HV, HBW, HX⟩ := hrel
    cases gk with
    | zero =>
      obtain rfl : q = Q := by omega
      rw [List.take_of_length_le (by omega)] at HV
      have d1 : decide (((64 * q : Nat) : Int) < (m.size : Int)) = false := decide_eq_false (by omega)
      obtain ⟨v, hv⟩ : ∃ v, blocks H0 L = v := ⟨_, rfl⟩
      rw [hv] at HV HO
      clear hv
      have HA1 := Aside0.mk (World.alloc_heap_new wr (.cells ((dpart O 0).map bcell).toArray 23))
      have HA2 := Aside0.mk (HBW.out.alloc HBW.out.size (.cells ((dpart O 0).map bcell).toArray 23))
      have HP6 : Aside0 (p4 < wr.heap.size) := ⟨(Array.getElem?_eq_some_iff.1 HV.out).1⟩
      have HA3 := Aside0.mk ((((Below.refl _ wr).alloc (Nat.le_refl _) (.cells ((dpart O 0).map bcell).toArray 23)).block p4 HP6.out).trans HV.out)
      have HA4 := Aside0.mk ((((Below.refl _ wr).alloc (Nat.le_refl _) (.cells ((dpart O 0).map bcell).toArray 23)).block w.heap.size (Nat.lt_trans HP4.out HP6.out)).trans HX.out)
      have e0 : (List.replicate 32 (Value.int .u8 0)).toArray = ((dpart O 0).map bcell).toArray := by rw [dpart_zero]; rfl
      clear HV HBW HX
      go_upto_block 4 with fail
      change Code.wp _ _ _ _ (wr.alloc (.cells (List.replicate 32 (Value.int .u8 0)).toArray 23))
      rw [e0]
      clear e0
      generalize wr.alloc (.cells ((dpart O 0).map bcell).toArray 23) = w5 at HA1 HA2 HA3 HA4 ⊢
      generalize wr.heap.size = p6 at HA1 HP6 ⊢
      go_wp2
      go_loopg [9] 32 (fun g v9 wx => ∃ i : Nat, i + g = 32 ∧ v9 = .int .i64 (i : Int) ∧ Aside0 (wx.heap[p6]? = some (.cells ((dpart O i).map bcell).toArray 23 (0, 0))) ∧ Aside0 (wx.heap[p4]? = some (.cells v.cells 70 (0, 0))) ∧ Aside0 (Below w.heap.size w wx) ∧ Aside0 (wx.heap[w.heap.size]? = some (.cells (List.replicate 32 (Value.int .u8 0)).toArray 23 (0, 0))))
      case atStart => exact ⟨0, by omega, rfl, HA1, HA3, HA2, HA4⟩
      case round =>
        clear HA1 HA2 HA3 HA4
        obtain ⟨i, hig, rfl, HP, HV, HBW, HX⟩ := hrel
        cases gk with
        | zero =>
          obtain rfl : i = 32 := by omega
          have d2 : decide ((32 : Int) < 32) = false := by decide
          have eO : dpart O 32 = O := by rw [dpart, Nat.sub_self, List.take_of_length_le (by rw [HOL.out]; omega)]; simp
          rw [eO] at HP
          go_wp2_with (first
            | ((with_reducible refine gate_dst (N := 53) rfl ?_); refine wpList_load_mid rfl 23 (.tmp 8) rfl p6 0 rfl (O.map bcell) _ (range_row HP.out) Tryd.underlying23 rfl (by rw [List.length_map, HOL.out]; exact HR23.out) ?_)
            | ((with_reducible refine gate_store (t := 23) (p := 2) rfl ?_); refine wpList_store_row' rfl 23 (.tmp 2) (.tmp 53) rfl w.heap.size 23 _ (O.map bcell).toArray rfl rfl HX.out (by rw [List.size_toArray, List.length_map, HOL.out]; exact HR23.out) (by rw [List.size_toArray, List.size_toArray, List.length_map, HOL.out]; rfl) (all_oneCell_toArray fun u hu => by obtain ⟨y, _, rfl⟩ := List.mem_map.1 hu; rfl) ?_; intro w9 hw9; have HX9 : Aside0 (w9.heap[w.heap.size]? = some (.cells (O.map bcell).toArray 23 (0, 0))) := ⟨by rw [hw9]; exact setRow_heap _ _ _ _ _ _ HX.out⟩; have HB9 : Aside0 (Below w.heap.size w w9) := ⟨by rw [hw9]; exact below_setRow HBW.out (Nat.le_refl _) _⟩; clear hw9))
          exact bodyPost_ret (v := .agg (O.map bcell).toArray) (results_cell_row rfl _ _ w.heap.size 23 (O.map bcell).toArray (0, 0) _ rfl HX9.out Tryd.underlying23 rfl (by rw [List.size_toArray, List.length_map, HOL.out]; exact HR23.out)) rfl ⟨rfl, HB9.out⟩
        | succ k2 =>
          have hi : i < 32 := by omega
          have d2 : decide ((i : Int) < 32) = true := decide_eq_true (by omega)
          have p9 : (0 ≤ (i : Int)) = True := eq_true (by omega)
          have q9 : ((i : Int) < 32) = True := eq_true (by omega)
          obtain ⟨c, hc⟩ : ∃ c, i / 4 = c := ⟨_, rfl⟩
          have hc8 : c < 8 := by omega
          have g1 := word_at (i := c) (l := v.words) (show wr.heap[p4]? = some (.cells (warr v.words) 70 (0, 0)) from HV.out) hc8
          obtain ⟨x, hx⟩ : ∃ x, v.words.getD c 0 = x := ⟨_, rfl⟩
          rw [hx] at g1
          have y0 : wr.cell? ⟨p6, i, none⟩ = some (.int .u8 (B ((dpart O i).getD i 0))) := by
            have hl := dpart_len O i (by omega) (by rw [HOL.out]; omega)
            simp [World.cell?, HP.out, List.getElem?_map, List.getElem?_eq_getElem (show i < (dpart O i).length by omega), List.getD_eq_getElem?_getD, bcell]
          have fz : wr.frozen? ⟨p6, i, none⟩ = false := by simp [World.frozen?, HP.out]
          have HIO : Aside0 (O.length = 32 ∧ digest v = O) := ⟨HOL.out, HO.out⟩
          have pc : (0 ≤ (c : Int)) = True := eq_true (by omega)
          have qc : ((c : Int) < 8) = True := eq_true (by omega)
          have et1 : Int.tdiv (i : Int) 4 = (c : Int) := by rw [← hc]; rfl
          have hr : i % 4 = 0 ∨ i % 4 = 1 ∨ i % 4 = 2 ∨ i % 4 = 3 := by omega
          have HC := Aside0.mk hc
          have HXX := Aside0.mk hx
          clear hc hx
          rcases hr with hr | hr | hr | hr
          · have et2 : Int.tmod (i : Int) 4 = 0 := by show ((i % 4 : Nat) : Int) = 0; omega
            go_wp2
            go_roundg k2
            case measure => omega
            case rel =>
              have n1 : p4 ≠ p6 := by have := HP6.out; omega
              have n2 : w.heap.size ≠ p6 := by have := HP6.out; have := HP4.out; omega
              refine ⟨i + 1, by omega, by go_num, ⟨?_⟩, ⟨(Below.heap_setCell _ _ _ _ n1).trans HV.out⟩, ⟨below_set HBW.out _ _ (by have := HP6.out; have := HP4.out; show w.heap.size ≤ p6; omega)⟩, ⟨(Below.heap_setCell _ _ _ _ n2).trans HX.out⟩⟩
              rw [← dpart_next O i hi _ (by rw [← HIO.out.2, show i = 4 * c from by have := HC.out; omega]; exact (digest_at v c hc8).1)]
              rw [HXX.out]
              exact bset HP.out i _
          · have et2 : Int.tmod (i : Int) 4 = 1 := by show ((i % 4 : Nat) : Int) = 1; omega
            go_wp2
            go_roundg k2
            case measure => omega
            case rel =>
              have n1 : p4 ≠ p6 := by have := HP6.out; omega
              have n2 : w.heap.size ≠ p6 := by have := HP6.out; have := HP4.out; omega
              refine ⟨i + 1, by omega, by go_num, ⟨?_⟩, ⟨(Below.heap_setCell _ _ _ _ n1).trans HV.out⟩, ⟨below_set HBW.out _ _ (by have := HP6.out; have := HP4.out; show w.heap.size ≤ p6; omega)⟩, ⟨(Below.heap_setCell _ _ _ _ n2).trans HX.out⟩⟩
              rw [← dpart_next O i hi _ (by rw [← HIO.out.2, show i = 4 * c + 1 from by have := HC.out; omega]; exact (digest_at v c hc8).2.1)]
              rw [HXX.out]
              exact bset HP.out i _
          · have et2 : Int.tmod (i : Int) 4 = 2 := by show ((i % 4 : Nat) : Int) = 2; omega
            go_wp2
            go_roundg k2
            case measure => omega
            case rel =>
              have n1 : p4 ≠ p6 := by have := HP6.out; omega
              have n2 : w.heap.size ≠ p6 := by have := HP6.out; have := HP4.out; omega
              refine ⟨i + 1, by omega, by go_num, ⟨?_⟩, ⟨(Below.heap_setCell _ _ _ _ n1).trans HV.out⟩, ⟨below_set HBW.out _ _ (by have := HP6.out; have := HP4.out; show w.heap.size ≤ p6; omega)⟩, ⟨(Below.heap_setCell _ _ _ _ n2).trans HX.out⟩⟩
              rw [← dpart_next O i hi _ (by rw [← HIO.out.2, show i = 4 * c + 2 from by have := HC.out; omega]; exact (digest_at v c hc8).2.2.1)]
              rw [HXX.out]
              exact bset HP.out i _
          · have et2 : Int.tmod (i : Int) 4 = 3 := by show ((i % 4 : Nat) : Int) = 3; omega
            go_wp2
            go_roundg k2
            case measure => omega
            case rel =>
              have n1 : p4 ≠ p6 := by have := HP6.out; omega
              have n2 : w.heap.size ≠ p6 := by have := HP6.out; have := HP4.out; omega
              refine ⟨i + 1, by omega, by go_num, ⟨?_⟩, ⟨(Below.heap_setCell _ _ _ _ n1).trans HV.out⟩, ⟨below_set HBW.out _ _ (by have := HP6.out; have := HP4.out; show w.heap.size ≤ p6; omega)⟩, ⟨(Below.heap_setCell _ _ _ _ n2).trans HX.out⟩⟩
              rw [← dpart_next O i hi _ (by rw [← HIO.out.2, show i = 4 * c + 3 from by have := HC.out; omega]; exact (digest_at v c hc8).2.2.2)]
              rw [HXX.out]
              exact bset HP.out i _
    | succ k1 =>
      have d1 : decide (((64 * q : Nat) : Int) < (m.size : Int)) = true := decide_eq_true (by omega)
      obtain ⟨D, hD⟩ : ∃ D, L.drop (64 * q) = D := ⟨_, rfl⟩
      have hDl : 64 ≤ D.length := by rw [← hD, List.length_drop]; omega
      obtain ⟨h, hh⟩ : ∃ h, blocks H0 (L.take (64 * q)) = h := ⟨_, rfl⟩
      have HN := Aside0.mk (show block h (part D 64) = blocks H0 (L.take (64 * (q + 1))) from by rw [part_all, ← hh, ← hD]; exact blocks_step H0 L q (by omega))
      rw [hh] at HV
      have HA1 := Aside0.mk (World.alloc_heap_new wr (.cells ((part D 0).map bcell).toArray 53))
      have HA2 := Aside0.mk (HBW.out.alloc HBW.out.size (.cells ((part D 0).map bcell).toArray 53))
      have HP6 : Aside0 (p4 < wr.heap.size) := ⟨(Array.getElem?_eq_some_iff.1 HV.out).1⟩
      have HA3 := Aside0.mk ((((Below.refl _ wr).alloc (Nat.le_refl _) (.cells ((part D 0).map bcell).toArray 53)).block p4 HP6.out).trans HV.out)
      have HA4 := Aside0.mk ((((Below.refl _ wr).alloc (Nat.le_refl _) (.cells ((part D 0).map bcell).toArray 53)).block w.heap.size (Nat.lt_trans HP4.out HP6.out)).trans HX.out)
      have e0 : (List.replicate 64 (Value.int .u8 0)).toArray = ((part D 0).map bcell).toArray := by rw [part_zero]; rfl
      have HEL := Aside0.mk (show ∀ j, j < 64 → L[64 * q + j]? = D[j]? from fun j hj => by rw [← hD, List.getElem?_drop])
      clear hD hh HV HBW HX
      go_upto_block 2 with fail
      change Code.wp _ _ _ _ (wr.alloc (.cells (List.replicate 64 (Value.int .u8 0)).toArray 53))
      rw [e0]
      clear e0
      generalize wr.alloc (.cells ((part D 0).map bcell).toArray 53) = w5 at HA1 HA2 HA3 HA4 ⊢
      generalize wr.heap.size = p6 at HA1 HP6 ⊢
      go_wp2
      go_loopg [7] 64 (fun g v7 wx => ∃ j : Nat, j + g = 64 ∧ v7 = .int .i64 (j : Int) ∧ Aside0 (wx.heap[p6]? = some (.cells ((part D j).map bcell).toArray 53 (0, 0))) ∧ Aside0 (wx.heap[p4]? = some (.cells h.cells 70 (0, 0))) ∧ Aside0 (Below w.heap.size w wx) ∧ Aside0 (wx.heap[w.heap.size]? = some (.cells (List.replicate 32 (Value.int .u8 0)).toArray 23 (0, 0))))
      case atStart => exact ⟨0, by omega, rfl, HA1, HA3, HA2, HA4⟩
      case round =>
        clear HA1 HA2 HA3 HA4
        obtain ⟨j, hjg, rfl, HP, HV, HBW, HX⟩ := hrel
        cases gk with
        | zero =>
          obtain rfl : j = 64 := by omega
          have HPL := Aside0.mk (part_len D 64 (Nat.le_refl _) hDl)
          obtain ⟨pb, hpb⟩ : ∃ pb, part D 64 = pb := ⟨_, rfl⟩
          rw [hpb] at HP HN HPL
          clear hpb
          have d2 : decide ((64 : Int) < 64) = false := by decide
          obtain ⟨y, hy⟩ : ∃ y, block h pb = y := ⟨_, rfl⟩
          have CB := Aside0.mk (rblock_calls h pb HPL.out wr)
          rw [hy] at CB HN
          clear hy
          go_wp2_with (first
            | ((with_reducible refine gate_dst (N := 33) rfl ?_); refine wpList_load_mid rfl 70 (.tmp 4) rfl p4 0 rfl (h.words.map wcell) _ (range_row HV.out) Tryd.underlying70 rfl (by kernel_rfl) ?_)
            | ((with_reducible refine gate_dst (N := 34) rfl ?_); refine wpList_load_mid rfl 53 (.tmp 6) rfl p6 0 rfl (pb.map bcell) _ (range_row HP.out) Tryd.underlying53 rfl (by rw [List.length_map, HPL.out]; kernel_rfl) ?_)
            | (go_at_call 40; refine Calls.mono (show Calls Tryd.prog 40 #[.agg (h.words.map wcell).toArray, .agg (pb.map bcell).toArray] wr _ from CB.out) ?_; rintro e w6 ⟨rfl, hb6⟩; have HB6 := Aside0.mk (HBW.out.trans (hb6.mono HBW.out.size)); have HX6 := Aside0.mk ((hb6.block _ (Array.getElem?_eq_some_iff.1 HX.out).1).trans HX.out); have HV6 := Aside0.mk ((hb6.block _ (Array.getElem?_eq_some_iff.1 HV.out).1).trans HV.out); clear hb6)
            | ((with_reducible refine gate_store (t := 70) (p := 4) rfl ?_); refine wpList_store_row' rfl 70 (.tmp 4) (.tmp 35) rfl p4 70 h.cells y.cells rfl rfl HV6.out (by kernel_rfl) (by kernel_rfl) (by kernel_rfl) ?_; intro w7 hw7; have HV7 : Aside0 (w7.heap[p4]? = some (.cells y.cells 70 (0, 0))) := ⟨by rw [hw7]; exact setRow_heap _ _ _ _ _ _ HV6.out⟩; have HB7 : Aside0 (Below w.heap.size w w7) := ⟨by rw [hw7]; exact below_setRow HB6.out (Nat.le_of_lt HP4.out) _⟩; have HX7 : Aside0 (w7.heap[w.heap.size]? = some (.cells (List.replicate 32 (Value.int .u8 0)).toArray 23 (0, 0))) := ⟨by rw [hw7]; exact (setRow_other _ _ _ _ (Nat.ne_of_lt HP4.out)).trans HX6.out⟩; clear hw7))
          go_roundg k1
          case measure => omega
          case rel =>
            refine ⟨q + 1, by omega, by first | rfl | go_num | (congr 1; omega), ⟨?_⟩, HB7, HX7⟩
            rw [← HN.out]
            exact HV7.out
        | succ k2 =>
          have hj : j < 64 := by omega
          have d2 : decide ((j : Int) < 64) = true := decide_eq_true (by omega)
          have p9 : (0 ≤ (j : Int)) = True := eq_true (by omega)
          have q9 : ((j : Int) < 64) = True := eq_true (by omega)
          have ew : wrap64 (64 * (q : Int) + (j : Int)) = 64 * (q : Int) + (j : Int) := w64 (by omega) (by omega)
          have et : (64 * (q : Int) + (j : Int)).toNat = 64 * q + j := by omega
          have p8 : (0 ≤ 64 * (q : Int) + (j : Int)) = True := eq_true (by omega)
          have q8 : (64 * (q : Int) + (j : Int) < 64 * (Q : Int)) = True := eq_true (by omega)
          have q7 : (64 * q + j < 64 * Q) = True := eq_true (by omega)
          obtain ⟨x, hx⟩ : ∃ x, D[j]? = some x := ⟨_, List.getElem?_eq_getElem (by omega)⟩
          have HMX := Aside0.mk (show ∀ hb : 64 * q + j < m.size, m[64 * q + j]'hb = x from fun hb => by
            have h1 := HEL.out j hj
            rw [hx, ← HLM.out] at h1
            have h2 : (bs m)[64 * q + j]? = some (m[64 * q + j]'hb) := by
              unfold bs
              rw [Array.getElem?_toList, Array.getElem?_eq_getElem hb]
              rfl
            rw [h1] at h2
            injection h2 with h2
            exact h2.symm)
          have HNP := Aside0.mk (show (part D j).set j x = part D (j + 1) from by
            have hjl : j < D.length := by omega
            rw [List.getElem?_eq_getElem hjl] at hx
            injection hx with hx
            rw [← hx]
            exact part_set D j hj hjl)
          have y0 : wr.cell? ⟨p6, j, none⟩ = some (.int .u8 (B ((part D j).getD j 0))) := by
            have hl := part_len D j (by omega) (by omega)
            simp [World.cell?, HP.out, List.getElem?_map, List.getElem?_eq_getElem (show j < (part D j).length by omega), List.getD_eq_getElem?_getD, bcell]
          have fz : wr.frozen? ⟨p6, j, none⟩ = false := by simp [World.frozen?, HP.out]
          clear hx
          go_wp2
          go_roundg k2
          case measure => omega
          case rel =>
            have n1 : p4 ≠ p6 := by have := HP6.out; omega
            have n2 : w.heap.size ≠ p6 := by have := HP6.out; have := HP4.out; omega
            refine ⟨j + 1, by omega, by go_num, ⟨?_⟩, ⟨(Below.heap_setCell _ _ _ _ n1).trans HV.out⟩, ⟨below_set HBW.out _ _ (by have := HP6.out; have := HP4.out; show w.heap.size ≤ p6; omega)⟩, ⟨(Below.heap_setCell _ _ _ _ n2).trans HX.out⟩⟩
            rw [← HNP.out, ← HMX.out (by omega)]
            exact bset HP.out j _
end Go.Proofs.YtglhbbijoeeclaaDoor.Sha
/- By a program of this session's: a plain Lean function for a Go function, and its contract. -/
namespace Go.Proofs.YtglhbbijoeeclaaDoor.Q
open Go.RowKit Go.Proofs.YtglhbbijoeeclaaDoorW.PrintWords Go.Proofs.YtglhbbijoeeclaaDoorW.PrintLast Go.Proofs.YtglhbbijoeeclaaDoorW.PrintMore
attribute [local go_sem] max2_int min2_int max_two min_two max_three min_three max_four min_four Go.Proofs.YtglhbbijoeeclaaDoor.Ord.str_leq Go.Proofs.YtglhbbijoeeclaaDoor.Ord.str_gtr Go.Proofs.YtglhbbijoeeclaaDoor.Ord.str_geq   -- for this text's walks alone
set_option linter.unusedVariables false
set_option linter.unusedSimpArgs false

/-! ### depotref02_digit: function 55 -/
def depotref02_digit.f (a0 : Int) : Option (Int) := if a0 < 10 then (some ((48 + a0) % 256)) else (some ((((97 + a0) % 256) - 10) % 256))
set_option maxHeartbeats 8000000 in
set_option maxRecDepth 100000 in
theorem depotref02_digit.calls (a0 : Int) (r : Int) (w : World) (h : depotref02_digit.f a0 = some r) :
    Calls Tryd.prog 55 #[.int .u8 a0] w fun e w' => e = .returned (.int .u8 r) ∧ Drawn0 w w' := by
  have H : (if a0 < 10 then (some ((48 + a0) % 256)) else (some ((((97 + a0) % 256) - 10) % 256))) = some r := h
  clear h
  by_cases c2 : a0 < 10
  · rw [if_pos c2] at H
    have c2b0 : decide (a0 < 10) = true := decide_eq_true c2
    clear c2
    obtain rfl := Option.some.inj H
    go_enter Tryd.func55, Tryd.ntmps55
    go_wp2
    go_ret
    exact ⟨by first | rfl | (simp; done) | (simp [*]; done), by repeat (first | exact Drawn0.refl _ | apply Drawn0.step)⟩
  · rw [if_neg c2] at H
    have c2b0 : decide (a0 < 10) = false := decide_eq_false c2
    clear c2
    obtain rfl := Option.some.inj H
    go_enter Tryd.func55, Tryd.ntmps55
    go_wp2
    go_ret
    exact ⟨by first | rfl | (simp; done) | (simp [*]; done), by repeat (first | exact Drawn0.refl _ | apply Drawn0.step)⟩

end Go.Proofs.YtglhbbijoeeclaaDoor.Q
/- By a program of this session's: a plain Lean function for a Go function, and its contract. -/
namespace Go.Proofs.YtglhbbijoeeclaaDoor.Q
open Go.RowKit Go.Proofs.YtglhbbijoeeclaaDoorW.PrintWords Go.Proofs.YtglhbbijoeeclaaDoorW.PrintLast Go.Proofs.YtglhbbijoeeclaaDoorW.PrintMore
attribute [local go_sem] max2_int min2_int max_two min_two max_three min_three max_four min_four Go.Proofs.YtglhbbijoeeclaaDoor.Ord.str_leq Go.Proofs.YtglhbbijoeeclaaDoor.Ord.str_gtr Go.Proofs.YtglhbbijoeeclaaDoor.Ord.str_geq   -- for this text's walks alone
set_option linter.unusedVariables false
set_option linter.unusedSimpArgs false

/-! ### depotref02_Hex: function 41 -/
def depotref02_Hex.l0 : Nat → ByteArray → List Int → Int → Option (ByteArray)
  | 0, _, _, _ => none
  | k + 1, x0, x3, x4 => if x4 < (x0.size : Int) then (if 0 ≤ x4 then ((depotref02_digit.f ((Int.tdiv (bt x0 x4) 16) % 256)).bind fun t166 => (if 0 ≤ (wrap64 (2 * x4)) then (if (wrap64 (2 * x4)) < (x3.length : Int) then ((depotref02_digit.f (Int.tmod (bt x0 x4) 16)).bind fun t168 => (if 0 ≤ (wrap64 ((wrap64 (2 * x4)) + 1)) then (if (wrap64 ((wrap64 (2 * x4)) + 1)) < (x3.length : Int) then (depotref02_Hex.l0 k x0 ((x3.set ((wrap64 (2 * x4)) : Int).toNat t166).set ((wrap64 ((wrap64 (2 * x4)) + 1)) : Int).toNat t168) (wrap64 (x4 + 1))) else (none)) else (none))) else (none)) else (none))) else (none)) else (some (strOfNums x3))
def depotref02_Hex.f (k : Nat) (a0 : ByteArray) : Option (ByteArray) := if 0 ≤ (wrap64 (2 * (a0.size : Int))) then (if (wrap64 (2 * (a0.size : Int)) : Int).toNat ≤ 281474976710656 then (depotref02_Hex.l0 k a0 (List.replicate (wrap64 (2 * (a0.size : Int)) : Int).toNat 0) 0) else (none)) else (none)
theorem depotref02_Hex.mono_l : ∀ k, (∀ y0 y1 y2, LeO (depotref02_Hex.l0 k y0 y1 y2) (depotref02_Hex.l0 (k + 1) y0 y1 y2))
  | 0 => fun _ _ _ r h => by simp [depotref02_Hex.l0] at h
  | k + 1 => by
    have ih0 := depotref02_Hex.mono_l k
    · intro y0 y1 y2
      unfold depotref02_Hex.l0
      repeat' first
      | (with_reducible exact ih0 _ _ _)
      | (with_reducible exact LeO.refl _)
      | (with_reducible exact LeO.none _)
      | (with_reducible refine LeO.ite ?_ ?_)
      | (with_reducible refine LeO.bind ?_ (fun _ => ?_))
      | exact ih0 _ _ _
      | exact LeO.none _
      | refine LeO.ite ?_ ?_
      | refine LeO.bind ?_ (fun _ => ?_)
theorem depotref02_Hex.mono : ∀ a0 k, LeO (depotref02_Hex.f k a0) (depotref02_Hex.f (k + 1) a0) := by
  intro a0 k
  have ih0 := depotref02_Hex.mono_l k
  unfold depotref02_Hex.f
  repeat' first
      | (with_reducible exact ih0 _ _ _)
      | (with_reducible exact LeO.refl _)
      | (with_reducible exact LeO.none _)
      | (with_reducible refine LeO.ite ?_ ?_)
      | (with_reducible refine LeO.bind ?_ (fun _ => ?_))
      | exact ih0 _ _ _
      | exact LeO.none _
      | refine LeO.ite ?_ ?_
      | refine LeO.bind ?_ (fun _ => ?_)
set_option maxHeartbeats 8000000 in
set_option maxRecDepth 100000 in
theorem depotref02_Hex.calls (k : Nat) (a0 : ByteArray) (r : ByteArray) (w : World) (h : depotref02_Hex.f k a0 = some r) :
    Calls Tryd.prog 41 #[.string a0] w fun e w' => e = .returned (.string r) ∧ Below w.heap.size w w' := by
  have HB := Aside0.mk (Below.refl w.heap.size w)
  have H : (if 0 ≤ (wrap64 (2 * (a0.size : Int))) then (if (wrap64 (2 * (a0.size : Int)) : Int).toNat ≤ 281474976710656 then (depotref02_Hex.l0 k a0 (List.replicate (wrap64 (2 * (a0.size : Int)) : Int).toNat 0) 0) else (none)) else (none)) = some r := h
  clear h
  obtain ⟨ji2, hji2⟩ : ∃ j_ : Int, (wrap64 (2 * (a0.size : Int))) = j_ := ⟨_, rfl⟩
  replace H : (if 0 ≤ (ji2) then (if (ji2 : Int).toNat ≤ 281474976710656 then (depotref02_Hex.l0 k a0 (List.replicate (ji2 : Int).toNat 0) 0) else (none)) else (none)) = some r := by first | (rw [hji2] at H; exact H) | (simp only [hji2] at H ⊢; exact H)
  have hji2w : (IntKind.i64.wrap (2 * (a0.size : Int))) = ji2 := (i64_w _).trans hji2
  by_cases c3 : 0 ≤ (ji2)
  · rw [if_pos c3] at H
    have c3b0 := eq_true c3
    have c3b1 : decide (0 ≤ (ji2)) = true := decide_eq_true c3
    clear c3
    by_cases c4 : (ji2 : Int).toNat ≤ 281474976710656
    · rw [if_pos c4] at H
      have c4b0 := eq_true c4
      have c4b1 : decide ((ji2 : Int).toNat ≤ 281474976710656) = true := decide_eq_true c4
      clear c4
      obtain ⟨y163, hy163⟩ : ∃ y_ : List Int, y_ = (List.replicate (ji2 : Int).toNat 0) := ⟨_, rfl⟩
      replace H : (depotref02_Hex.l0 k a0 y163 0) = some r := by first | (rw [hy163]; with_reducible exact H) | (have H2_ := (Option.bind_some _ _).symm.trans H; rw [hy163]; with_reducible exact H2_) | (have H2_ := (Option.bind_some _ _).symm.trans H; with_reducible exact H2_) | with_reducible exact H | (rw [hy163]; exact H) | exact H
      have Ny163 := Aside0.mk hy163
      clear hy163
      have H' := Aside0.mk H
      clear H
      go_enter Tryd.func41, Tryd.ntmps41
      go_wp2_with (first | ((with_reducible refine gate_dst (N := 8) rfl ?_); refine Kd.R_make (Kd.int .u8) _ 5 rfl (N := 8) rfl 34 _ _ rfl ji2 rfl rfl Tryd.underlying34 (.int .u8 0) 1 info5 rfl (by decide) (by omega) 0 (ok := fun _ => True) (okp := fun _ => True) rfl (fun _ hk => hk) trivial (of_decide_eq_true (by first | (with_reducible assumption) | assumption)) (Nat.le_trans (Nat.mul_le_mul_right _ (of_decide_eq_true (by first | (with_reducible assumption) | assumption) : ji2.toNat ≤ 281474976710656)) (by omega)) (Below.refl _ _) (Nat.le_refl _) ?_; intro v164 w5 ho6 hb hg_ hnew_; clear hg_ hnew_; (first | rw [← Ny163.out] at ho6 | (simp only [Int.reduceToNat] at ho6; rw [← Ny163.out] at ho6)); have n0_ := Aside0.mk (Kd.R_lower ho6 (below_size (by repeat (first | (with_reducible first | exact HB.out | apply below_alloc | apply pw_below_drewN | apply below_drew1) | exact HB.out)))); have n1_ := Aside0.mk (below_step (by repeat (first | (with_reducible first | exact HB.out | apply below_alloc | apply pw_below_drewN | apply below_drew1) | exact HB.out)) hb); clear HB; have HO165 := n0_; have HB := n1_; clear n0_ n1_; clear hb ho6))
      go_loopg [4] k (fun kq v4 w' => ∃ (x3_1 : List Int) (x4_1 : Int), v4 = .int .i64 x4_1 ∧ Aside0 (depotref02_Hex.l0 kq a0 x3_1 x4_1 = some r) ∧ Aside0 (kq ≤ k) ∧ Aside0 (Kd.R (Kd.int .u8) 5 w' w.heap.size (fun _ => True) v164 x3_1) ∧ Aside0 (Below w.heap.size w w'))
      case atStart => exact ⟨(y163), (0), (by first | rfl | (simp; done) | (simp [*]; done)), H', ⟨Nat.le_refl _⟩, ⟨by (with_reducible repeat (first | apply Kd.R_alloc | apply Kd.R_drewN | apply Kd.R_drew)); exact HO165.out⟩, ⟨by repeat (first | (with_reducible first | exact HB.out | apply below_alloc | apply pw_below_drewN | apply below_drew1) | exact HB.out)⟩⟩
      case round =>
        clear H'
        try clear p2
        try clear c3
        try clear c3b0
        try clear c3b1
        try clear c4
        try clear c4b0
        try clear c4b1
        try clear p6
        obtain ⟨x3_1, x4_1, rfl, HA, HK1, HO_3, HB⟩ := hrel
        cases gk with
        | zero => exact absurd HA.out (by simp [depotref02_Hex.l0])
        | succ k1 =>
          have H := HA.out
          clear HA
          simp only [depotref02_Hex.l0] at H
          by_cases c7 : x4_1 < (a0.size : Int)
          · rw [if_pos c7] at H
            have c7b0 : decide (x4_1 < (a0.size : Int)) = true := decide_eq_true c7
            clear c7
            by_cases c8 : 0 ≤ x4_1
            · rw [if_pos c8] at H
              have c8b0 : decide (0 ≤ x4_1) = true := decide_eq_true c8
              clear c8
              replace H := Option.bind_eq_some_iff.mp H
              obtain ⟨t166, A100, H⟩ := H
              replace H : (if 0 ≤ (wrap64 (2 * x4_1)) then (if (wrap64 (2 * x4_1)) < (x3_1.length : Int) then ((depotref02_digit.f (Int.tmod (bt a0 x4_1) 16)).bind fun t168 => (if 0 ≤ (wrap64 ((wrap64 (2 * x4_1)) + 1)) then (if (wrap64 ((wrap64 (2 * x4_1)) + 1)) < (x3_1.length : Int) then (depotref02_Hex.l0 k1 a0 ((x3_1.set ((wrap64 (2 * x4_1)) : Int).toNat t166).set ((wrap64 ((wrap64 (2 * x4_1)) + 1)) : Int).toNat t168) (wrap64 (x4_1 + 1))) else (none)) else (none))) else (none)) else (none)) = some r := H
              have A10 := Aside0.mk A100
              clear A100
              obtain ⟨ji11, hji11⟩ : ∃ j_ : Int, (wrap64 (2 * x4_1)) = j_ := ⟨_, rfl⟩
              replace H : (if 0 ≤ (ji11) then (if (ji11) < (x3_1.length : Int) then ((depotref02_digit.f (Int.tmod (bt a0 x4_1) 16)).bind fun t168 => (if 0 ≤ (wrap64 ((ji11) + 1)) then (if (wrap64 ((ji11) + 1)) < (x3_1.length : Int) then (depotref02_Hex.l0 k1 a0 ((x3_1.set ((ji11) : Int).toNat t166).set ((wrap64 ((ji11) + 1)) : Int).toNat t168) (wrap64 (x4_1 + 1))) else (none)) else (none))) else (none)) else (none)) = some r := by first | (rw [hji11] at H; exact H) | (simp only [hji11] at H ⊢; exact H)
              (try rw [hji11] at A10)
              have hji11w : (IntKind.i64.wrap (2 * x4_1)) = ji11 := (i64_w _).trans hji11
              by_cases c12 : 0 ≤ (ji11)
              · rw [if_pos c12] at H
                have c12b0 : decide (0 ≤ (ji11)) = true := decide_eq_true c12
                clear c12
                by_cases c13 : (ji11) < (x3_1.length : Int)
                · rw [if_pos c13] at H
                  have c13b0 : decide ((ji11) < (x3_1.length : Int)) = true := decide_eq_true c13
                  clear c13
                  obtain ⟨y167, hy167⟩ : ∃ y_ : List Int, y_ = (x3_1.set ((ji11) : Int).toNat t166) := ⟨_, rfl⟩
                  replace H : ((depotref02_digit.f (Int.tmod (bt a0 x4_1) 16)).bind fun t168 => (if 0 ≤ (wrap64 ((ji11) + 1)) then (if (wrap64 ((ji11) + 1)) < (x3_1.length : Int) then (depotref02_Hex.l0 k1 a0 (y167.set ((wrap64 ((ji11) + 1)) : Int).toNat t168) (wrap64 (x4_1 + 1))) else (none)) else (none))) = some r := by first | (rw [hy167]; with_reducible exact H) | (have H2_ := (Option.bind_some _ _).symm.trans H; rw [hy167]; with_reducible exact H2_) | (have H2_ := (Option.bind_some _ _).symm.trans H; with_reducible exact H2_) | with_reducible exact H | (rw [hy167]; exact H) | exact H
                  have Ny167 := Aside0.mk hy167
                  clear hy167
                  replace H := Option.bind_eq_some_iff.mp H
                  obtain ⟨t168, A160, H⟩ := H
                  replace H : (if 0 ≤ (wrap64 ((ji11) + 1)) then (if (wrap64 ((ji11) + 1)) < (x3_1.length : Int) then (depotref02_Hex.l0 k1 a0 (y167.set ((wrap64 ((ji11) + 1)) : Int).toNat t168) (wrap64 (x4_1 + 1))) else (none)) else (none)) = some r := H
                  have A16 := Aside0.mk A160
                  clear A160
                  obtain ⟨ji17, hji17⟩ : ∃ j_ : Int, (wrap64 ((ji11) + 1)) = j_ := ⟨_, rfl⟩
                  replace H : (if 0 ≤ (ji17) then (if (ji17) < (x3_1.length : Int) then (depotref02_Hex.l0 k1 a0 (y167.set ((ji17) : Int).toNat t168) (wrap64 (x4_1 + 1))) else (none)) else (none)) = some r := by first | (rw [hji17] at H; exact H) | (simp only [hji17] at H ⊢; exact H)
                  (try rw [hji17] at A10)
                  (try rw [hji17] at A16)
                  have hji17w : (IntKind.i64.wrap ((ji11) + 1)) = ji17 := (i64_w _).trans hji17
                  by_cases c18 : 0 ≤ (ji17)
                  · rw [if_pos c18] at H
                    have c18b0 : decide (0 ≤ (ji17)) = true := decide_eq_true c18
                    clear c18
                    by_cases c19 : (ji17) < (x3_1.length : Int)
                    · rw [if_pos c19] at H
                      have c19b0 : decide ((ji17) < (x3_1.length : Int)) = true := decide_eq_true c19
                      clear c19
                      obtain ⟨y169, hy169⟩ : ∃ y_ : List Int, y_ = (y167.set ((ji17) : Int).toNat t168) := ⟨_, rfl⟩
                      replace H : (depotref02_Hex.l0 k1 a0 y169 (wrap64 (x4_1 + 1))) = some r := by first | (rw [hy169]; with_reducible exact H) | (have H2_ := (Option.bind_some _ _).symm.trans H; rw [hy169]; with_reducible exact H2_) | (have H2_ := (Option.bind_some _ _).symm.trans H; with_reducible exact H2_) | with_reducible exact H | (rw [hy169]; exact H) | exact H
                      have Ny169 := Aside0.mk hy169
                      clear hy169
                      have H' := Aside0.mk H
                      clear H
                      have p9 : 0 ≤ (x4_1 : Int) := of_decide_eq_true (by first | (with_reducible assumption) | assumption)
                      have q9 : x4_1 < (a0.size : Int) := of_decide_eq_true (by first | (with_reducible assumption) | assumption)
                      have hx9 := bt_at a0 x4_1
                      replace p9 := eq_true p9
                      replace q9 := eq_true q9
                      go_wp2_with (first | ((with_reducible refine gate_callee (f := 55) rfl ?_); refine goesL_ (some 22) rfl rfl Tryd.func55 (by kernel_rfl) rfl #[.int .u8 ((Int.tdiv (bt a0 x4_1) 16) % 256)] rfl (by (try simp only [List.map_toArray, List.map_cons, List.map_nil]); first | done | rfl | (simp only [List.length_drop, List.length_take]; rfl)) ?_; (with_reducible refine (depotref02_digit.calls ((Int.tdiv (bt a0 x4_1) 16) % 256) t166 _ A10.out).mono ?_); rintro e w' ⟨rfl, ⟨nd, rfl⟩⟩; refine ⟨_, rfl, ?_⟩; (try (rw [drewN_self wr]; generalize hq_ : World.drewN wr _ = wr; have n0_ : Aside0 (Kd.R (Kd.int .u8) 5 wr w.heap.size (fun _ => True) v164 x3_1) := ⟨by rw [← hq_]; exact (by (with_reducible repeat (first | apply Kd.R_alloc | apply Kd.R_drewN | apply Kd.R_drew)); exact HO_3.out)⟩; have n1_ : Aside0 (Below w.heap.size w wr) := ⟨by rw [← hq_]; exact (by repeat (first | (with_reducible first | exact HB.out | apply below_alloc | apply pw_below_drewN | apply below_drew1) | exact HB.out))⟩; clear HO_3 HB hq_; have HO_3 := n0_; have HB := n1_; clear n0_ n1_)); have p14 : 0 ≤ ((ji11) : Int) := of_decide_eq_true (by first | (with_reducible assumption) | assumption); have q14 : ((ji11) : Int) < ((x3_1.length : Int) : Int) := of_decide_eq_true (by first | (with_reducible assumption) | assumption); obtain ⟨go14, co14, eo14, gb14, gl14, cl14, HG14⟩ := Kd.R_form HO_3.out (by omega); (first | cases eo14 | (injection eo14 with ea_ en_ ec_; (first | subst ea_ | (injection ea_ with ea_; subst ea_)); subst ec_; clear en_)); have GB14 := Aside0.mk gb14; have GG14 := Aside0.mk HG14; clear gb14 gl14 HG14; obtain ⟨hx14_0, hf14_0⟩ := Kd.R_celln 0 HO_3.out ((ji11) : Int) p14 q14; replace p14 := eq_true p14; replace q14 := eq_true q14; obtain ⟨hy21_, hz21_⟩ := Kd.R_celln 0 HO_3.out ((ji11) : Int) (of_decide_eq_true (by first | (with_reducible assumption) | assumption)) (of_decide_eq_true (by first | (with_reducible assumption) | assumption)); have HP21 := Kd.R_putg HO_3.out ((ji11) : Int) t166) | ((with_reducible refine gate_store (t := 5) (p := 23) rfl ?_); refine store_event (t := 5) (p := 23) (v := ?vo_w22) (w1 := (wr.setCell ⟨go14, ((ji11) : Int).toNat, none⟩ (.int .u8 t166))) ?hg ?ho ?hn ?hr ?_; (case ho => rfl); (case hg => rfl); (case hn => rfl); (case hr => first | (go_simp; done) | (go_simp; rfl)); intro w22 hw; have hg : wr.grownBy w22 (some go14) := (by rw [hw]; exact HP21.2); have hp_ : Kd.R (Kd.int .u8) 5 w22 w.heap.size (fun _ => True) (.slice (some ⟨go14, 0, none⟩) x3_1.length co14) y167 := (by rw [hw, Ny167.out]; exact HP21.1); clear HP21; have n0_ := Aside0.mk (hp_); have n1_ := Aside0.mk ((by rw [hw]; exact below_set (HB.out) GB14.out : Below w.heap.size w w22)); clear HO_3; clear HB; have HO_3 := n0_; have HB := n1_; clear n0_ n1_; clear hg hw hp_; have p15 : 0 ≤ (x4_1 : Int) := of_decide_eq_true (by first | (with_reducible assumption) | assumption); have q15 : x4_1 < (a0.size : Int) := of_decide_eq_true (by first | (with_reducible assumption) | assumption); have hx15 := bt_at a0 x4_1; replace p15 := eq_true p15; replace q15 := eq_true q15) | ((with_reducible refine gate_callee (f := 55) rfl ?_); refine goesL_ (some 32) rfl rfl Tryd.func55 (by kernel_rfl) rfl #[.int .u8 (Int.tmod (bt a0 x4_1) 16)] rfl (by (try simp only [List.map_toArray, List.map_cons, List.map_nil]); first | done | rfl | (simp only [List.length_drop, List.length_take]; rfl)) ?_; (with_reducible refine (depotref02_digit.calls (Int.tmod (bt a0 x4_1) 16) t168 _ A16.out).mono ?_); rintro e w' ⟨rfl, ⟨nd, rfl⟩⟩; refine ⟨_, rfl, ?_⟩; (try (rw [drewN_self w22]; generalize hq_ : World.drewN w22 _ = w22; have n0_ : Aside0 (Kd.R (Kd.int .u8) 5 w22 w.heap.size (fun _ => True) (.slice (some ⟨go14, 0, none⟩) x3_1.length co14) y167) := ⟨by rw [← hq_]; exact (by (with_reducible repeat (first | apply Kd.R_alloc | apply Kd.R_drewN | apply Kd.R_drew)); exact HO_3.out)⟩; have n1_ : Aside0 (Below w.heap.size w w22) := ⟨by rw [← hq_]; exact (by repeat (first | (with_reducible first | exact HB.out | apply below_alloc | apply pw_below_drewN | apply below_drew1) | exact HB.out))⟩; clear HO_3 HB hq_; have HO_3 := n0_; have HB := n1_; clear n0_ n1_)); have p20 : 0 ≤ ((ji17) : Int) := of_decide_eq_true (by first | (with_reducible assumption) | assumption); have q20 : ((ji17) : Int) < ((x3_1.length : Int) : Int) := of_decide_eq_true (by first | (with_reducible assumption) | assumption); obtain ⟨hx20_0, hf20_0⟩ := Kd.R_celln 0 HO_3.out ((ji17) : Int) p20 q20; replace p20 := eq_true p20; replace q20 := eq_true q20; obtain ⟨hy23_, hz23_⟩ := Kd.R_celln 0 HO_3.out ((ji17) : Int) (of_decide_eq_true (by first | (with_reducible assumption) | assumption)) (of_decide_eq_true (by first | (with_reducible assumption) | assumption)); have HP23 := Kd.R_putg HO_3.out ((ji17) : Int) t168) | ((with_reducible refine gate_store (t := 5) (p := 33) rfl ?_); refine store_event (t := 5) (p := 33) (v := ?vo_w24) (w1 := (w22.setCell ⟨go14, ((ji17) : Int).toNat, none⟩ (.int .u8 t168))) ?hg ?ho ?hn ?hr ?_; (case ho => rfl); (case hg => rfl); (case hn => rfl); (case hr => first | (go_simp; done) | (go_simp; rfl)); intro w24 hw; have hg : w22.grownBy w24 (some go14) := (by rw [hw]; exact HP23.2); have hp_ : Kd.R (Kd.int .u8) 5 w24 w.heap.size (fun _ => True) (.slice (some ⟨go14, 0, none⟩) x3_1.length co14) y169 := (by rw [hw, Ny169.out]; exact HP23.1); clear HP23; have n0_ := Aside0.mk (hp_); have n1_ := Aside0.mk ((by rw [hw]; exact below_set (HB.out) GB14.out : Below w.heap.size w w24)); clear HO_3; clear HB; have HO_3 := n0_; have HB := n1_; clear n0_ n1_; clear hg hw hp_))
                      go_roundg k1
                      case measure => have := HK1.out; omega
                      case rel => exact ⟨(y169), (wrap64 (x4_1 + 1)), (by first | rfl | (simp; done) | (simp [*]; done)), H', ⟨by have := HK1.out; omega⟩, ⟨by (with_reducible repeat (first | apply Kd.R_alloc | apply Kd.R_drewN | apply Kd.R_drew)); exact HO_3.out⟩, ⟨by repeat (first | (with_reducible first | exact HB.out | apply below_alloc | apply pw_below_drewN | apply below_drew1) | exact HB.out)⟩⟩
                    · rw [if_neg c19] at H
                      exact absurd H (by simp)
                  · rw [if_neg c18] at H
                    exact absurd H (by simp)
                · rw [if_neg c13] at H
                  exact absurd H (by simp)
              · rw [if_neg c12] at H
                exact absurd H (by simp)
            · rw [if_neg c8] at H
              exact absurd H (by simp)
          · rw [if_neg c7] at H
            have c7b0 : decide (x4_1 < (a0.size : Int)) = false := decide_eq_false c7
            clear c7
            obtain rfl := Option.some.inj H
            have hcv25 := own_string (P := Tryd.prog) Tryd.underlying34 Tryd.underlying5 Tryd.underlying9 (Kd.own_of_R HO_3.out)
            go_wp2
            go_ret
            exact ⟨by first | rfl | (simp [errW_none, errW_some] <;> rfl) | (simp only [← hji2]; first | rfl | (simp [errW_none, errW_some] <;> rfl)) | (simp [*, errW_none, errW_some] <;> rfl), by repeat (first | (with_reducible first | exact HB.out | apply below_alloc | apply pw_below_drewN | apply below_drew1) | exact HB.out)⟩
    · rw [if_neg c4] at H
      exact absurd H (by simp)
  · rw [if_neg c3] at H
    exact absurd H (by simp)

end Go.Proofs.YtglhbbijoeeclaaDoor.Q
/- Hexadecimal digits: the program's and the document's (plain). -/
namespace Go.Proofs.YtglhbbijoeeclaaDoor.HexPure
open Go.RowKit Go.Proofs.YtglhbbijoeeclaaDoor.Q Go.Proofs.YtglhbbijoeeclaaDoor.Bytes Go.Proofs.YtglhbbijoeeclaaDoor.Evs Go.Proofs.YtglhbbijoeeclaaDoorW.PrintWords Go.Proofs.YtglhbbijoeeclaaDoorW.PrintLast Go.Proofs.YtglhbbijoeeclaaDoorW.PrintMore
set_option linter.unusedVariables false
set_option linter.unusedSimpArgs false
/-- A digit's letter. -/
def dg (n : Nat) : Int := if n < 10 then ((48 + n : Nat) : Int) else ((87 + n : Nat) : Int)
theorem dg_prog : ∀ n : Nat, n < 16 → bt (⟨#[48, 49, 50, 51, 52, 53, 54, 55, 56, 57, 97, 98, 99, 100, 101, 102]⟩ : ByteArray) (n : Int) = dg n := by decide +kernel
theorem dg_ref : ∀ n : Nat, n < 16 → depotref02_digit.f (n : Int) = some (dg n) := by decide +kernel
theorem and15_mod : ∀ n : Nat, n < 256 → Go.bits .and .u8 (n : Int) 15 = ((n % 16 : Nat) : Int) := by decide +kernel
/-- The digits of bytes, as numbers. -/
def hexN (l : List UInt8) : List Int := l.flatMap fun c => [dg (c.toNat / 16), dg (c.toNat % 16)]
theorem hexN_len : ∀ l : List UInt8, (hexN l).length = 2 * l.length
  | [] => rfl
  | c :: l => by
    rw [hexN, List.flatMap_cons, List.length_append, List.length_cons]
    have := hexN_len l
    unfold hexN at this
    rw [this]
    show 2 + 2 * l.length = 2 * (l.length + 1)
    omega
theorem hexN_snoc (l : List UInt8) (c : UInt8) : hexN (l ++ [c]) = hexN l ++ [dg (c.toNat / 16), dg (c.toNat % 16)] := by
  unfold hexN
  rw [List.flatMap_append]
  rfl
theorem prog_l0 (a : ByteArray) (ha : (bs a).length < 1000000) (d : Nat) : ∀ i, i + d = (bs a).length → Ev (fun k => radix_Hex.l0 k a (hexN ((bs a).take i)) ((bs a).length : Int) (i : Int)) (strOfNums (hexN (bs a))) := by
  induction d with
  | zero =>
    intro i hi
    refine succ ?_
    simp only [radix_Hex.l0]
    refine neg (by omega) (now ?_)
    rw [List.take_of_length_le (by omega)]
  | succ d ih =>
    intro i hi
    have hil : i < (bs a).length := by omega
    have ht : (bs a).take (i + 1) = (bs a).take i ++ [(bs a)[i]] := List.take_succ_eq_append_getElem hil
    have hlt := (bs a)[i].toNat_lt
    refine succ ?_
    simp only [radix_Hex.l0]
    rw [bt_lt a i hil]
    have h1 : ((((bs a)[i]).toNat : Int)) / 16 = ((((bs a)[i]).toNat / 16 : Nat) : Int) := by omega
    rw [h1, and15_mod _ hlt, dg_prog _ (by omega), dg_prog _ (by omega), wr i (by omega)]
    refine pos (by omega) (pos (by omega) (pos (by rw [size_bs]; omega) (pos (by omega) (pos (by omega) (pos (by omega) (pos (by omega) (call rfl (pos (by rw [hexN_len, List.length_take]; show _ + 2 < _; omega) ?_))))))))
    have := ih (i + 1) (by omega)
    rw [ht, hexN_snoc] at this
    exact this
theorem prog_hex (a : ByteArray) (ha : (bs a).length < 1000000) : Ev (fun k => radix_Hex.f k a) (strOfNums (hexN (bs a))) := by
  unfold radix_Hex.f
  have e : wrap64 (2 * (a.size : Int)) = ((2 * (bs a).length : Nat) : Int) := by rw [size_bs, w64 (by omega) (by omega)]; omega
  rw [e]
  refine pos (by omega) (pos (by omega) ?_)
  have := prog_l0 a ha (bs a).length 0 (by omega)
  rw [size_bs]
  exact this
theorem ref_l0 (a : ByteArray) (ha : (bs a).length < 1000000) (d : Nat) : ∀ i, i + d = (bs a).length → Ev (fun k => depotref02_Hex.l0 k a (hexN ((bs a).take i) ++ List.replicate (2 * d) 0) (i : Int)) (strOfNums (hexN (bs a))) := by
  induction d with
  | zero =>
    intro i hi
    refine succ ?_
    simp only [depotref02_Hex.l0]
    refine neg (by rw [size_bs]; omega) (now ?_)
    rw [List.take_of_length_le (by omega), Nat.mul_zero, List.replicate_zero, List.append_nil]
  | succ d ih =>
    intro i hi
    have hil : i < (bs a).length := by omega
    have ht : (bs a).take (i + 1) = (bs a).take i ++ [(bs a)[i]] := List.take_succ_eq_append_getElem hil
    have hlt := (bs a)[i].toNat_lt
    have hl : (hexN ((bs a).take i)).length = 2 * i := by rw [hexN_len, List.length_take]; omega
    refine succ ?_
    simp only [depotref02_Hex.l0]
    rw [bt_lt a i hil]
    have h1 : (Int.tdiv (((bs a)[i]).toNat : Int) 16) % 256 = ((((bs a)[i]).toNat / 16 : Nat) : Int) := by
      rw [Int.tdiv_eq_ediv_of_nonneg (by omega)]
      omega
    have h2 : Int.tmod (((bs a)[i]).toNat : Int) 16 = ((((bs a)[i]).toNat % 16 : Nat) : Int) := rfl
    have e1 : wrap64 (2 * (i : Int)) = ((2 * i : Nat) : Int) := by rw [w64 (by omega) (by omega)]; omega
    have e2 : wrap64 (((2 * i : Nat) : Int) + 1) = ((2 * i + 1 : Nat) : Int) := by rw [w64 (by omega) (by omega)]; omega
    rw [h1, h2, e1, e2, wr i (by omega)]
    have hL : (hexN ((bs a).take i) ++ List.replicate (2 * (d + 1)) (0 : Int)).length = 2 * i + 2 * (d + 1) := by rw [List.length_append, hl, List.length_replicate]
    refine pos (by rw [size_bs]; omega) (pos (by omega) (call (dg_ref _ (by omega)) (pos (by omega) (pos (by rw [hL]; omega) (call (dg_ref _ (by omega)) (pos (by omega) (pos (by rw [hL]; omega) ?_)))))))
    have := ih (i + 1) (by omega)
    rw [ht, hexN_snoc] at this
    have es : ((hexN ((bs a).take i) ++ List.replicate (2 * (d + 1)) (0 : Int)).set (2 * i) (dg (((bs a)[i]).toNat / 16))).set (2 * i + 1) (dg (((bs a)[i]).toNat % 16)) = hexN ((bs a).take i) ++ [dg (((bs a)[i]).toNat / 16), dg (((bs a)[i]).toNat % 16)] ++ List.replicate (2 * d) 0 := by
      rw [List.set_append_right _ _ (by omega), List.set_append_right _ _ (by omega), hl, Nat.sub_self, Nat.add_sub_cancel_left, show 2 * (d + 1) = (2 * d) + 1 + 1 from by omega, List.replicate_succ, List.replicate_succ, List.set_cons_zero, List.set_cons_succ, List.set_cons_zero]
      simp
    rw [Int.toNat_natCast, Int.toNat_natCast, es]
    exact this
theorem ref_hex (a : ByteArray) (ha : (bs a).length < 1000000) : Ev (fun k => depotref02_Hex.f k a) (strOfNums (hexN (bs a))) := by
  unfold depotref02_Hex.f
  have e : wrap64 (2 * (a.size : Int)) = ((2 * (bs a).length : Nat) : Int) := by rw [size_bs, w64 (by omega) (by omega)]; omega
  rw [e]
  refine pos (by omega) (pos (by omega) ?_)
  have := ref_l0 a ha (bs a).length 0 (by omega)
  exact this
end Go.Proofs.YtglhbbijoeeclaaDoor.HexPure
/- By a program of this session's: a plain Lean function for a Go function, and its contract. -/
namespace Go.Proofs.YtglhbbijoeeclaaDoor.Q
open Go.RowKit Go.Proofs.YtglhbbijoeeclaaDoorW.PrintWords Go.Proofs.YtglhbbijoeeclaaDoorW.PrintLast Go.Proofs.YtglhbbijoeeclaaDoorW.PrintMore
attribute [local go_sem] max2_int min2_int max_two min_two max_three min_three max_four min_four Go.Proofs.YtglhbbijoeeclaaDoor.Ord.str_leq Go.Proofs.YtglhbbijoeeclaaDoor.Ord.str_gtr Go.Proofs.YtglhbbijoeeclaaDoor.Ord.str_geq   -- for this text's walks alone
set_option linter.unusedVariables false
set_option linter.unusedSimpArgs false

/-! ### depotref02_Fold: function 25 -/
mutual
def depotref02_Fold.j0 : Nat → ByteArray → Int → Bool → Option (ByteArray × Int)
  | 0, _, _, _ => none
  | k + 1, x0, x1, x13 => if x13 = true then (some ((⟨#[]⟩ : ByteArray), 1)) else (if 0 ≤ x1 then (if (x1 : Int).toNat ≤ 281474976710656 then (depotref02_Fold.l0 k x0 x1 (List.replicate (x1 : Int).toNat 0) 0) else (none)) else (none))
def depotref02_Fold.l0 : Nat → ByteArray → Int → List Int → Int → Option (ByteArray × Int)
  | 0, _, _, _, _ => none
  | k + 1, x0, x1, x6, x7 => if x7 < (x0.size : Int) then (if x1 = 0 then (none) else (if 0 ≤ (Int.tmod x7 x1) then (if (Int.tmod x7 x1) < (x6.length : Int) then (if 0 ≤ x7 then (depotref02_Fold.l0 k x0 x1 (x6.set ((Int.tmod x7 x1) : Int).toNat (Go.bits .xor .u8 (rd x6 (Int.tmod x7 x1)) (bt x0 x7))) (wrap64 (x7 + 1))) else (none)) else (none)) else (none))) else (some (strOfNums x6, 0))
end
def depotref02_Fold.f (k : Nat) (a0 : ByteArray) (a1 : Int) : Option (ByteArray × Int) := if a1 < 1 then (depotref02_Fold.j0 k a0 a1 true) else (depotref02_Fold.j0 k a0 a1 (decide (a1 > 64)))
theorem depotref02_Fold.mono_l : ∀ k, (∀ y0 y1 y2, LeO (depotref02_Fold.j0 k y0 y1 y2) (depotref02_Fold.j0 (k + 1) y0 y1 y2)) ∧ (∀ y0 y1 y2 y3, LeO (depotref02_Fold.l0 k y0 y1 y2 y3) (depotref02_Fold.l0 (k + 1) y0 y1 y2 y3))
  | 0 => ⟨fun _ _ _ r h => by simp [depotref02_Fold.j0] at h, fun _ _ _ _ r h => by simp [depotref02_Fold.l0] at h⟩
  | k + 1 => by
    obtain ⟨ih0, ih1⟩ := depotref02_Fold.mono_l k
    refine ⟨?_, ?_⟩
    · intro y0 y1 y2
      unfold depotref02_Fold.j0
      repeat' first
      | (with_reducible exact ih0 _ _ _)
      | (with_reducible exact ih1 _ _ _ _)
      | (with_reducible exact LeO.refl _)
      | (with_reducible exact LeO.none _)
      | (with_reducible refine LeO.ite ?_ ?_)
      | (with_reducible refine LeO.bind ?_ (fun _ => ?_))
      | exact ih0 _ _ _
      | exact ih1 _ _ _ _
      | exact LeO.none _
      | refine LeO.ite ?_ ?_
      | refine LeO.bind ?_ (fun _ => ?_)
    · intro y0 y1 y2 y3
      unfold depotref02_Fold.l0
      repeat' first
      | (with_reducible exact ih0 _ _ _)
      | (with_reducible exact ih1 _ _ _ _)
      | (with_reducible exact LeO.refl _)
      | (with_reducible exact LeO.none _)
      | (with_reducible refine LeO.ite ?_ ?_)
      | (with_reducible refine LeO.bind ?_ (fun _ => ?_))
      | exact ih0 _ _ _
      | exact ih1 _ _ _ _
      | exact LeO.none _
      | refine LeO.ite ?_ ?_
      | refine LeO.bind ?_ (fun _ => ?_)
theorem depotref02_Fold.mono : ∀ a0 a1 k, LeO (depotref02_Fold.f k a0 a1) (depotref02_Fold.f (k + 1) a0 a1) := by
  intro a0 a1 k
  obtain ⟨ih0, ih1⟩ := depotref02_Fold.mono_l k
  unfold depotref02_Fold.f
  repeat' first
      | (with_reducible exact ih0 _ _ _)
      | (with_reducible exact ih1 _ _ _ _)
      | (with_reducible exact LeO.refl _)
      | (with_reducible exact LeO.none _)
      | (with_reducible refine LeO.ite ?_ ?_)
      | (with_reducible refine LeO.bind ?_ (fun _ => ?_))
      | exact ih0 _ _ _
      | exact ih1 _ _ _ _
      | exact LeO.none _
      | refine LeO.ite ?_ ?_
      | refine LeO.bind ?_ (fun _ => ?_)
def depotref02_Fold.T7 : Bool × List (List Nat × List Nat) := (true, [([], []), ([], []), ([], []), ([1, 2], [1, 2]), ([], []), ([], []), ([], []), ([5, 6], [5, 6]), ([4, 7], [4, 7]), ([8], [8]), ([], []), ([], []), ([10, 11], [10, 11]), ([9, 12], [9, 12]), ([0, 3, 0, 1, 2, 3, 4, 5, 6, 7, 8, 9, 10, 11, 12, 13], [0, 3]), ([14, 13, 0, 1, 2, 3, 4, 5, 6, 7, 8, 9, 10, 11, 12, 13], [13, 14])])
def depotref02_Fold.B7 : List Nat := [0, 0, 0, 6, 0, 0, 0, 96, 240, 496, 0, 0, 3072, 8176, 16383, 32767]
theorem depotref02_Fold.tab7 : rtab .any (opsOf Tryd.f25 7) = depotref02_Fold.T7 := by kernel_rfl
theorem depotref02_Fold.bits7 : waitsOk depotref02_Fold.T7.2 depotref02_Fold.B7 = true := by kernel_rfl
set_option maxHeartbeats 8000000 in
set_option maxRecDepth 100000 in
theorem depotref02_Fold.calls (k : Nat) (a0 : ByteArray) (a1 : Int) (r1 : ByteArray) (r2 : Int) (w : World) (h : depotref02_Fold.f k a0 a1 = some (r1, r2)) :
    Calls Tryd.prog 25 #[.string a0, .int .i64 a1] w fun e w' => e = .returned (.tuple #[.string r1, .int .i64 r2]) ∧ Below w.heap.size w w' := by
  have HB := Aside0.mk (Below.refl w.heap.size w)
  have H : (if a1 < 1 then (depotref02_Fold.j0 k a0 a1 true) else (depotref02_Fold.j0 k a0 a1 (decide (a1 > 64)))) = some (r1, r2) := h
  clear h
  have HC3 := Aside0.mk H
  clear H
  go_enter Tryd.func25, Tryd.ntmps25
  go_upto_region 1 with (fail)
  go_cut [13] (fun v13 wc => ∃ (kq : Nat) (x13_2 : Bool), v13 = .bool x13_2 ∧ Aside0 (depotref02_Fold.j0 kq a0 a1 x13_2 = some (r1, r2)) ∧ Aside0 (kq ≤ k) ∧ Aside0 (Below w.heap.size w wc))
  case first =>
    have H := HC3.out
    clear HC3
    by_cases c4 : a1 < 1
    · rw [if_pos c4] at H
      have c4b0 : decide (a1 < 1) = true := decide_eq_true c4
      clear c4
      (first | rw [c4b0] | (simp only [i64_w, i32_w]; rw [c4b0]) | skip)
      have H' := Aside0.mk H
      clear H
      go_wp2
      go_meet
      case rel => exact ⟨_, (true), (by first | rfl | (simp; done) | (simp [*]; done)), H', ⟨by first | omega | exact Nat.le_refl _⟩, ⟨by repeat (first | (with_reducible first | exact HB.out | apply below_alloc | apply pw_below_drewN | apply below_drew1) | exact HB.out)⟩⟩
    · rw [if_neg c4] at H
      have c4b0 : decide (a1 < 1) = false := decide_eq_false c4
      clear c4
      (first | rw [c4b0] | (simp only [i64_w, i32_w]; rw [c4b0]) | skip)
      have H' := Aside0.mk H
      clear H
      go_wp2
      go_meet
      case rel => exact ⟨_, (decide (a1 > 64)), (by first | rfl | (simp; done) | (simp [*]; done)), H', ⟨by first | omega | exact Nat.le_refl _⟩, ⟨by repeat (first | (with_reducible first | exact HB.out | apply below_alloc | apply pw_below_drewN | apply below_drew1) | exact HB.out)⟩⟩
  case rest =>
    clear HC3
    try clear c2
    try clear p2
    try clear c4
    try clear c4b0
    obtain ⟨kq, x13_2, rfl, HA, HJ2, HB⟩ := hcut
    cases kq with
    | zero => exact absurd HA.out (by simp [depotref02_Fold.j0])
    | succ kj2 =>
      have H := HA.out
      clear HA
      simp only [depotref02_Fold.j0] at H
      by_cases c5 : x13_2 = true
      · subst c5
        have H1 : (some ((⟨#[]⟩ : ByteArray), 1)) = some (r1, r2) := by rw [if_pos rfl] at H; exact H
        clear H
        have H := H1
        clear H1
        simp only [Option.some.injEq, Prod.mk.injEq] at H
        obtain ⟨rfl, rfl⟩ := H
        go_wp2
        go_ret2
        exact ⟨by first | rfl | (simp [errW_none, errW_some] <;> rfl) | (simp [*, errW_none, errW_some] <;> rfl), by repeat (first | (with_reducible first | exact HB.out | apply below_alloc | apply pw_below_drewN | apply below_drew1) | exact HB.out)⟩
      · replace c5 := Bool.eq_false_iff.mpr c5
        subst c5
        have H1 : (if 0 ≤ a1 then (if (a1 : Int).toNat ≤ 281474976710656 then (depotref02_Fold.l0 kj2 a0 a1 (List.replicate (a1 : Int).toNat 0) 0) else (none)) else (none)) = some (r1, r2) := by rw [if_neg (show ¬ (false = true) by decide)] at H; exact H
        clear H
        have H := H1
        clear H1
        by_cases c6 : 0 ≤ a1
        · rw [if_pos c6] at H
          have c6b0 := eq_true c6
          have c6b1 : decide (0 ≤ a1) = true := decide_eq_true c6
          clear c6
          by_cases c7 : (a1 : Int).toNat ≤ 281474976710656
          · rw [if_pos c7] at H
            have c7b0 := eq_true c7
            have c7b1 : decide ((a1 : Int).toNat ≤ 281474976710656) = true := decide_eq_true c7
            clear c7
            obtain ⟨y170, hy170⟩ : ∃ y_ : List Int, y_ = (List.replicate (a1 : Int).toNat 0) := ⟨_, rfl⟩
            replace H : (depotref02_Fold.l0 kj2 a0 a1 y170 0) = some (r1, r2) := by first | (rw [hy170]; with_reducible exact H) | (have H2_ := (Option.bind_some _ _).symm.trans H; rw [hy170]; with_reducible exact H2_) | (have H2_ := (Option.bind_some _ _).symm.trans H; with_reducible exact H2_) | with_reducible exact H | (rw [hy170]; exact H) | exact H
            have Ny170 := Aside0.mk hy170
            clear hy170
            have H' := Aside0.mk H
            clear H
            go_wp2_with (first | ((with_reducible refine gate_dst (N := 15) rfl ?_); refine Kd.R_make (Kd.int .u8) _ 5 rfl (N := 15) rfl 34 _ _ rfl a1 rfl rfl Tryd.underlying34 (.int .u8 0) 1 info5 rfl (by decide) (by omega) 0 (ok := fun _ => True) (okp := fun _ => True) rfl (fun _ hk => hk) trivial (of_decide_eq_true (by first | (with_reducible assumption) | assumption)) (Nat.le_trans (Nat.mul_le_mul_right _ (of_decide_eq_true (by first | (with_reducible assumption) | assumption) : a1.toNat ≤ 281474976710656)) (by omega)) (Below.refl _ _) (Nat.le_refl _) ?_; intro v171 w8 ho9 hb hg_ hnew_; clear hg_ hnew_; (first | rw [← Ny170.out] at ho9 | (simp only [Int.reduceToNat] at ho9; rw [← Ny170.out] at ho9)); have n0_ := Aside0.mk (Kd.R_lower ho9 (below_size (by repeat (first | (with_reducible first | exact HB.out | apply below_alloc | apply pw_below_drewN | apply below_drew1) | exact HB.out)))); have n1_ := Aside0.mk (below_step (by repeat (first | (with_reducible first | exact HB.out | apply below_alloc | apply pw_below_drewN | apply below_drew1) | exact HB.out)) hb); clear HB; have HO172 := n0_; have HB := n1_; clear n0_ n1_; clear hb ho9))
            go_loopg [7] kj2 (fun kq v7 w' => ∃ (x6_2 : List Int) (x7_2 : Int), v7 = .int .i64 x7_2 ∧ Aside0 (depotref02_Fold.l0 kq a0 a1 x6_2 x7_2 = some (r1, r2)) ∧ Aside0 (kq ≤ kj2) ∧ Aside0 (Kd.R (Kd.int .u8) 5 w' w.heap.size (fun _ => True) v171 x6_2) ∧ Aside0 (Below w.heap.size w w'))
            case atStart => exact ⟨(y170), (0), (by first | rfl | (simp; done) | (simp [*]; done)), H', ⟨Nat.le_refl _⟩, ⟨by (with_reducible repeat (first | apply Kd.R_alloc | apply Kd.R_drewN | apply Kd.R_drew)); exact HO172.out⟩, ⟨by repeat (first | (with_reducible first | exact HB.out | apply below_alloc | apply pw_below_drewN | apply below_drew1) | exact HB.out)⟩⟩
            case round =>
              clear H'
              try clear c2
              try clear p2
              try clear c4
              try clear c4b0
              try clear c5
              try clear c6
              try clear c6b0
              try clear c6b1
              try clear c7
              try clear c7b0
              try clear c7b1
              try clear p2
              obtain ⟨x6_2, x7_2, rfl, HA, HK2, HO_6, HB⟩ := hrel
              cases gk with
              | zero => exact absurd HA.out (by simp [depotref02_Fold.l0])
              | succ k2 =>
                have H := HA.out
                clear HA
                simp only [depotref02_Fold.l0] at H
                by_cases c10 : x7_2 < (a0.size : Int)
                · rw [if_pos c10] at H
                  have c10b0 : decide (x7_2 < (a0.size : Int)) = true := decide_eq_true c10
                  clear c10
                  by_cases c11 : a1 = 0
                  · rw [if_pos c11] at H
                    exact absurd H (by simp)
                  · rw [if_neg c11] at H
                    have c11b0 : (a1 == 0) = false := beq_eq_false_iff_ne.mpr c11
                    have c11b1 : (a1 != 0) = true := bne_iff_ne.mpr c11
                    obtain ⟨ji12, hji12⟩ : ∃ j_ : Int, (Int.tmod x7_2 a1) = j_ := ⟨_, rfl⟩
                    replace H : (if 0 ≤ (ji12) then (if (ji12) < (x6_2.length : Int) then (if 0 ≤ x7_2 then (depotref02_Fold.l0 k2 a0 a1 (x6_2.set ((ji12) : Int).toNat (Go.bits .xor .u8 (rd x6_2 (ji12)) (bt a0 x7_2))) (wrap64 (x7_2 + 1))) else (none)) else (none)) else (none)) = some (r1, r2) := by first | (rw [hji12] at H; exact H) | (simp only [hji12] at H ⊢; exact H)
                    by_cases c13 : 0 ≤ (ji12)
                    · rw [if_pos c13] at H
                      have c13b0 : decide (0 ≤ (ji12)) = true := decide_eq_true c13
                      clear c13
                      by_cases c14 : (ji12) < (x6_2.length : Int)
                      · rw [if_pos c14] at H
                        have c14b0 : decide ((ji12) < (x6_2.length : Int)) = true := decide_eq_true c14
                        clear c14
                        by_cases c15 : 0 ≤ x7_2
                        · rw [if_pos c15] at H
                          have c15b0 : decide (0 ≤ x7_2) = true := decide_eq_true c15
                          clear c15
                          obtain ⟨y174, hy174⟩ : ∃ y_ : List Int, y_ = (x6_2.set ((ji12) : Int).toNat (Go.bits .xor .u8 (rd x6_2 (ji12)) (bt a0 x7_2))) := ⟨_, rfl⟩
                          replace H : (depotref02_Fold.l0 k2 a0 a1 y174 (wrap64 (x7_2 + 1))) = some (r1, r2) := by first | (rw [hy174]; with_reducible exact H) | (have H2_ := (Option.bind_some _ _).symm.trans H; rw [hy174]; with_reducible exact H2_) | (have H2_ := (Option.bind_some _ _).symm.trans H; with_reducible exact H2_) | with_reducible exact H | (rw [hy174]; exact H) | exact H
                          have Ny174 := Aside0.mk hy174
                          clear hy174
                          have H' := Aside0.mk H
                          clear H
                          try go_wp2
                          have n0_ := Aside0.mk (Kd.R_drew HO_6.out)
                          have n1_ := Aside0.mk (below_drew1 HB.out)
                          clear HO_6
                          clear HB
                          have HO_6 := n0_
                          have HB := n1_
                          clear n0_ n1_
                          obtain ⟨Ao19, co19, eo19⟩ := Kd.R_slice HO_6.out
                          (first | subst eo19 | (injection eo19 with f1_ f2_ f3_; have f4_ := f1_.symm; have f5_ := f3_.symm; clear f1_ f2_ f3_; subst f4_; subst f5_))
                          have p173 : 0 ≤ ((ji12) : Int) := of_decide_eq_true (by first | (with_reducible assumption) | assumption)
                          have q173 : (ji12) < (x6_2.length : Int) := of_decide_eq_true (by first | (with_reducible assumption) | assumption)
                          obtain ⟨ad173, e173, hx173_0⟩ := Kd.at_int (Kd.R_reads' HO_6.out).2.2 (ji12) p173 q173
                          cases e173
                          replace p173 := eq_true p173
                          replace q173 := eq_true q173
                          have p16 : 0 ≤ (x7_2 : Int) := of_decide_eq_true (by first | (with_reducible assumption) | assumption)
                          have q16 : x7_2 < (a0.size : Int) := of_decide_eq_true (by first | (with_reducible assumption) | assumption)
                          have hx16 := bt_at a0 x7_2
                          replace p16 := eq_true p16
                          replace q16 := eq_true q16
                          have p17 : 0 ≤ ((ji12) : Int) := of_decide_eq_true (by first | (with_reducible assumption) | assumption)
                          have q17 : ((ji12) : Int) < ((x6_2.length : Int) : Int) := of_decide_eq_true (by first | (with_reducible assumption) | assumption)
                          obtain ⟨go17, co17, eo17, gb17, gl17, cl17, HG17⟩ := Kd.R_form HO_6.out (by omega)
                          (first | cases eo17 | (injection eo17 with ea_ en_ ec_; (first | subst ea_ | (injection ea_ with ea_; subst ea_)); subst ec_; clear en_))
                          have GB17 := Aside0.mk gb17
                          have GG17 := Aside0.mk HG17
                          clear gb17 gl17 HG17
                          (first | simp only [add_plain] at hx173_0 | skip)
                          obtain ⟨hx17_0, hf17_0⟩ := Kd.R_celln 0 HO_6.out ((ji12) : Int) p17 q17
                          replace p17 := eq_true p17
                          replace q17 := eq_true q17
                          have HP20 := Kd.R_putn HO_6.out ((ji12) : Int) (Go.bits .xor .u8 (rd x6_2 (ji12)) (bt a0 x7_2))
                          rw [← Ny174.out] at HP20
                          have HQ20 := Aside0.mk HP20
                          clear HP20
                          refine start_ (n := 16) (S := fun w' => w'.cell? ⟨go17, ((ji12)).toNat, none⟩ = some (.int .u8 (rd x6_2 (ji12)))) (ds := [15]) #[false, false, false, false, false, false, false, false, false, false, false, false, false, false, false, false] (by kernel_rfl) rfl rfl (hx173_0) (fun hHeld => ?_); refine with_tabW depotref02_Fold.tab7 depotref02_Fold.bits7 (fun HT_ HW_ => ?_)
                          generalize wr.drew = w18 at HO_6 HB GG17 HQ20 hf17_0 hx173_0 hx17_0 hHeld ⊢
                          refine pure_ (i := 0) (N := some 22) (v := ?_) (a' := ?_) #[true, false, false, false, false, false, false, false, false, false, false, false, false, false, false, false] rfl rfl (any_of HT_.out (by kernel_rfl)) (fun _ _ _ h => h) (Or.inl ⟨by rfl, ?_⟩) ?_ ?_
                          rotate_left
                          · intro w'
                            go_simp
                            with_reducible rfl
                          rotate_left
                          · simp only [Act.put, List.setIfInBounds_toArray, List.set_cons_zero, List.set_cons_succ, i64_w, i32_w]
                            rfl
                          refine pure_ (i := 1) (N := some 23) (v := ?_) (a' := ?_) #[true, true, false, false, false, false, false, false, false, false, false, false, false, false, false, false] rfl rfl (any_of HT_.out (by kernel_rfl)) (fun _ _ _ h => h) (Or.inl ⟨by rfl, ?_⟩) ?_ ?_
                          rotate_left
                          · intro w'
                            go_simp
                            with_reducible rfl
                          rotate_left
                          · simp only [Act.put, List.setIfInBounds_toArray, List.set_cons_zero, List.set_cons_succ, i64_w, i32_w]
                            rfl
                          refine pure_ (i := 2) (N := some 24) (v := ?_) (a' := ?_) #[true, true, true, false, false, false, false, false, false, false, false, false, false, false, false, false] rfl rfl (any_of HT_.out (by kernel_rfl)) (fun _ _ _ h => h) (Or.inl ⟨by rfl, ?_⟩) ?_ ?_
                          rotate_left
                          · intro w'
                            go_simp
                            with_reducible rfl
                          rotate_left
                          · simp only [Act.put, List.setIfInBounds_toArray, List.set_cons_zero, List.set_cons_succ, i64_w, i32_w]
                            rfl
                          refine pure_ (i := 3) (N := some 25) (v := ?_) (a' := ?_) #[true, true, true, true, false, false, false, false, false, false, false, false, false, false, false, false] rfl rfl (any_of HT_.out (by kernel_rfl)) (fun _ _ _ h => h) (Or.inl ⟨by rfl, ?_⟩) ?_ ?_
                          rotate_left
                          · intro w'
                            go_simp
                            with_reducible rfl
                          rotate_left
                          · simp only [Act.put, List.setIfInBounds_toArray, List.set_cons_zero, List.set_cons_succ, i64_w, i32_w]
                            rfl
                          refine pure_ (i := 4) (N := some 26) (v := ?_) (a' := ?_) #[true, true, true, true, true, false, false, false, false, false, false, false, false, false, false, false] rfl rfl (any_of HT_.out (by kernel_rfl)) (fun _ _ _ h => h) (Or.inl ⟨by rfl, ?_⟩) ?_ ?_
                          rotate_left
                          · intro w'
                            go_simp
                            with_reducible rfl
                          rotate_left
                          · simp only [Act.put, List.setIfInBounds_toArray, List.set_cons_zero, List.set_cons_succ, i64_w, i32_w]
                            rfl
                          refine pure_ (i := 5) (N := some 27) (v := ?_) (a' := ?_) #[true, true, true, true, true, true, false, false, false, false, false, false, false, false, false, false] rfl rfl (any_of HT_.out (by kernel_rfl)) (fun _ _ _ h => h) (Or.inl ⟨by rfl, ?_⟩) ?_ ?_
                          rotate_left
                          · intro w'
                            go_simp
                            with_reducible rfl
                          rotate_left
                          · simp only [Act.put, List.setIfInBounds_toArray, List.set_cons_zero, List.set_cons_succ, i64_w, i32_w]
                            rfl
                          refine pure_ (i := 6) (N := some 28) (v := ?_) (a' := ?_) #[true, true, true, true, true, true, true, false, false, false, false, false, false, false, false, false] rfl rfl (any_of HT_.out (by kernel_rfl)) (fun _ _ _ h => h) (Or.inl ⟨by rfl, ?_⟩) ?_ ?_
                          rotate_left
                          · intro w'
                            go_simp
                            with_reducible rfl
                          rotate_left
                          · simp only [Act.put, List.setIfInBounds_toArray, List.set_cons_zero, List.set_cons_succ, i64_w, i32_w]
                            rfl
                          refine pure_ (i := 7) (N := some 29) (v := ?_) (a' := ?_) #[true, true, true, true, true, true, true, true, false, false, false, false, false, false, false, false] rfl rfl (any_of HT_.out (by kernel_rfl)) (fun _ _ _ h => h) (Or.inl ⟨by rfl, ?_⟩) ?_ ?_
                          rotate_left
                          · intro w'
                            go_simp
                            with_reducible rfl
                          rotate_left
                          · simp only [Act.put, List.setIfInBounds_toArray, List.set_cons_zero, List.set_cons_succ, i64_w, i32_w]
                            rfl
                          refine pure_ (i := 8) (N := some 30) (v := ?_) (a' := ?_) #[true, true, true, true, true, true, true, true, true, false, false, false, false, false, false, false] rfl rfl (any_of HT_.out (by kernel_rfl)) (fun _ _ _ h => h) (Or.inl ⟨by rfl, ?_⟩) ?_ ?_
                          rotate_left
                          · intro w'
                            go_simp
                            with_reducible rfl
                          rotate_left
                          · simp only [Act.put, List.setIfInBounds_toArray, List.set_cons_zero, List.set_cons_succ, i64_w, i32_w]
                            rfl
                          refine pure_ (i := 10) (N := some 32) (v := ?_) (a' := ?_) #[true, true, true, true, true, true, true, true, true, false, true, false, false, false, false, false] rfl rfl (any_of HT_.out (by kernel_rfl)) (fun _ _ _ h => h) (Or.inl ⟨by rfl, ?_⟩) ?_ ?_
                          rotate_left
                          · intro w'
                            go_simp
                            with_reducible rfl
                          rotate_left
                          · simp only [Act.put, List.setIfInBounds_toArray, List.set_cons_zero, List.set_cons_succ, i64_w, i32_w]
                            rfl
                          refine pure_ (i := 11) (N := some 33) (v := ?_) (a' := ?_) #[true, true, true, true, true, true, true, true, true, false, true, true, false, false, false, false] rfl rfl (any_of HT_.out (by kernel_rfl)) (fun _ _ _ h => h) (Or.inl ⟨by rfl, ?_⟩) ?_ ?_
                          rotate_left
                          · intro w'
                            go_simp
                            with_reducible rfl
                          rotate_left
                          · simp only [Act.put, List.setIfInBounds_toArray, List.set_cons_zero, List.set_cons_succ, i64_w, i32_w]
                            rfl
                          refine take_ (i := 9) (N := some 31) (v := ?_) (a' := ?_) #[true, true, true, true, true, true, true, true, true, true, true, true, false, false, false, false] rfl rfl (take_ofW HT_.out HW_.out (by kernel_rfl)) (fun _ _ _ h => h) (Or.inl ⟨by rfl, ?_⟩) hHeld ?_ ?_
                          rotate_left
                          · intro w' s0
                            go_simp
                            with_reducible rfl
                          rotate_left
                          · simp only [Act.put, List.setIfInBounds_toArray, List.set_cons_zero, List.set_cons_succ, i64_w, i32_w]
                            rfl
                          refine take_ (i := 12) (N := some 34) (v := ?_) (a' := ?_) #[true, true, true, true, true, true, true, true, true, true, true, true, true, false, false, false] rfl rfl (take_ofW HT_.out HW_.out (by kernel_rfl)) (fun _ _ _ h => h) (Or.inl ⟨by rfl, ?_⟩) hHeld ?_ ?_
                          rotate_left
                          · intro w' s0
                            go_simp
                            with_reducible rfl
                          rotate_left
                          · simp only [Act.put, List.setIfInBounds_toArray, List.set_cons_zero, List.set_cons_succ, i64_w, i32_w]
                            rfl
                          refine pure_ (i := 13) (N := some 35) (v := ?_) (a' := ?_) #[true, true, true, true, true, true, true, true, true, true, true, true, true, true, false, false] rfl rfl (any_of HT_.out (by kernel_rfl)) (fun _ _ _ h => h) (Or.inl ⟨by rfl, ?_⟩) ?_ ?_
                          rotate_left
                          · intro w'
                            go_simp
                            with_reducible rfl
                          rotate_left
                          · simp only [Act.put, List.setIfInBounds_toArray, List.set_cons_zero, List.set_cons_succ, i64_w, i32_w]
                            rfl
                          refine pure_ (i := 14) (N := some 36) (v := ?_) (a' := ?_) #[true, true, true, true, true, true, true, true, true, true, true, true, true, true, true, false] rfl rfl (any_of HT_.out (by kernel_rfl)) (fun _ _ _ h => h) (Or.inl ⟨by rfl, ?_⟩) ?_ ?_
                          rotate_left
                          · intro w'
                            go_simp
                            with_reducible rfl
                          rotate_left
                          · simp only [Act.put, List.setIfInBounds_toArray, List.set_cons_zero, List.set_cons_succ, i64_w, i32_w]
                            rfl
                          refine last_ (i := 15) (N := none) #[true, true, true, true, true, true, true, true, true, true, true, true, true, true, true, true] rfl rfl (one_of HT_.out (by kernel_rfl)) (by decide) (fun K hK => ?_)
                          refine skip_ (w1 := ?_) (by rfl) rfl ?_ ?_
                          rotate_left
                          · go_simp
                            rfl
                          refine hK.out _ _ ?_
                          clear hK K
                          refine done_ (done_of HT_.out (by kernel_rfl)) ?_
                          try go_wp2
                          go_roundg k2
                          case measure => have := HJ2.out; have := HK2.out; omega
                          case rel => exact ⟨(y174), (wrap64 (x7_2 + 1)), (by first | rfl | (simp; done) | (simp [*]; done)), H', ⟨by have := HJ2.out; have := HK2.out; omega⟩, ⟨by (with_reducible repeat (first | apply Kd.R_alloc | apply Kd.R_drewN | apply Kd.R_drew)); exact HQ20.out⟩, ⟨by repeat (first | (with_reducible first | exact HB.out | apply below_alloc | apply pw_below_drewN | apply below_drew1 | refine below_set ?_ GB17.out) | exact HB.out)⟩⟩
                        · rw [if_neg c15] at H
                          exact absurd H (by simp)
                      · rw [if_neg c14] at H
                        exact absurd H (by simp)
                    · rw [if_neg c13] at H
                      exact absurd H (by simp)
                · rw [if_neg c10] at H
                  have c10b0 : decide (x7_2 < (a0.size : Int)) = false := decide_eq_false c10
                  clear c10
                  simp only [Option.some.injEq, Prod.mk.injEq] at H
                  obtain ⟨rfl, rfl⟩ := H
                  have hcv21 := own_string (P := Tryd.prog) Tryd.underlying34 Tryd.underlying5 Tryd.underlying9 (Kd.own_of_R HO_6.out)
                  go_wp2
                  go_ret2
                  exact ⟨by first | rfl | (simp [errW_none, errW_some] <;> rfl) | (simp [*, errW_none, errW_some] <;> rfl), by repeat (first | (with_reducible first | exact HB.out | apply below_alloc | apply pw_below_drewN | apply below_drew1) | exact HB.out)⟩
          · rw [if_neg c7] at H
            exact absurd H (by simp)
        · rw [if_neg c6] at H
          exact absurd H (by simp)

end Go.Proofs.YtglhbbijoeeclaaDoor.Q
/- The document's Fold is fold (plain). -/
namespace Go.Proofs.YtglhbbijoeeclaaDoor.Sha
open Go.RowKit Go.Proofs.YtglhbbijoeeclaaDoor.Q Go.Proofs.YtglhbbijoeeclaaDoor.Bytes Go.Proofs.YtglhbbijoeeclaaDoor.Evs Go.Proofs.YtglhbbijoeeclaaDoorW.PrintWords Go.Proofs.YtglhbbijoeeclaaDoorW.PrintLast Go.Proofs.YtglhbbijoeeclaaDoorW.PrintMore
set_option linter.unusedVariables false
set_option linter.unusedSimpArgs false
theorem nums_bytes (l : List UInt8) : strOfNums (l.map B) = ⟨l.toArray⟩ := by
  unfold strOfNums
  rw [List.map_map]
  congr 1
  congr 1
  conv => rhs; rw [← List.map_id l]
  exact List.map_congr_left fun c _ => by simp [B]
theorem rfold_l0 (s : ByteArray) (n : Nat) (h1 : 1 ≤ n) (h2 : n ≤ 64) (hs : (bs s).length < 1000000) (d : Nat) : ∀ i, i + d = (bs s).length →
    Ev (fun k => depotref02_Fold.l0 k s (n : Int) (((foldTo (bs s) n i).take n).map B) (i : Int)) (⟨(fold (bs s) n).toArray⟩, 0) := by
  induction d with
  | zero =>
    intro i hi
    refine succ ?_
    simp only [depotref02_Fold.l0]
    refine neg (by rw [size_bs]; omega) (now ?_)
    rw [nums_bytes, show i = (bs s).length from by omega]
    rfl
  | succ d ih =>
    intro i hi
    have hil : i < (bs s).length := by omega
    have hm : i % n < n := Nat.mod_lt _ (by omega)
    have hfl := foldTo_len (bs s) n i
    have htl : (((foldTo (bs s) n i).take n).map B).length = n := by rw [List.length_map, List.length_take]; omega
    refine succ ?_
    simp only [depotref02_Fold.l0]
    have et : Int.tmod (i : Int) (n : Int) = ((i % n : Nat) : Int) := rfl
    rw [et, wr i (by omega)]
    refine pos (by rw [size_bs]; omega) (neg (by omega) (pos (by omega) (pos (by rw [htl]; omega) (pos (by omega) ?_))))
    have hg : rd (((foldTo (bs s) n i).take n).map B) ((i % n : Nat) : Int) = B ((foldTo (bs s) n i).getD (i % n) 0) := by
      unfold rd
      rw [Int.toNat_natCast, List.getD_eq_getElem?_getD, List.getElem?_map, List.getElem?_take, if_pos hm, List.getD_eq_getElem?_getD, List.getElem?_eq_getElem (by omega)]
      rfl
    have hb : bt s (i : Int) = B ((bs s).getD i 0) := by rw [bt_bs, Int.toNat_natCast]; rfl
    rw [hg, hb, B_xor, Int.toNat_natCast, ← List.map_set, ← List.take_set]
    have := ih (i + 1) (by omega)
    rw [foldTo] at this
    exact this
theorem rfold (s : ByteArray) (n : Nat) (h1 : 1 ≤ n) (h2 : n ≤ 64) (hs : (bs s).length < 1000000) : Ev (fun k => depotref02_Fold.f k s (n : Int)) (⟨(fold (bs s) n).toArray⟩, 0) := by
  unfold depotref02_Fold.f
  refine neg (by omega) (succ ?_)
  simp only [depotref02_Fold.j0]
  refine neg (by rw [decide_eq_true_iff]; omega) (pos (by omega) (pos (by rw [Int.toNat_natCast]; omega) ?_))
  have := rfold_l0 s n h1 h2 hs (bs s).length 0 (by omega)
  have e : ((foldTo (bs s) n 0).take n).map B = List.replicate n 0 := by
    rw [foldTo, List.take_replicate, Nat.min_eq_left h2, List.map_replicate]
    rfl
  rw [e] at this
  rw [Int.toNat_natCast]
  exact this
end Go.Proofs.YtglhbbijoeeclaaDoor.Sha
/- By a program of this session's: a plain Lean function for a Go function, and its contract. -/
namespace Go.Proofs.YtglhbbijoeeclaaDoor.Q
open Go.RowKit Go.Proofs.YtglhbbijoeeclaaDoorW.PrintWords Go.Proofs.YtglhbbijoeeclaaDoorW.PrintLast Go.Proofs.YtglhbbijoeeclaaDoorW.PrintMore
attribute [local go_sem] max2_int min2_int max_two min_two max_three min_three max_four min_four Go.Proofs.YtglhbbijoeeclaaDoor.Ord.str_leq Go.Proofs.YtglhbbijoeeclaaDoor.Ord.str_gtr Go.Proofs.YtglhbbijoeeclaaDoor.Ord.str_geq   -- for this text's walks alone
set_option linter.unusedVariables false
set_option linter.unusedSimpArgs false

/-! ### depotref02_bits: function 42 -/
mutual
def depotref02_bits.l0 : Nat → ByteArray → List Int → Int → Option (List Int)
  | 0, _, _, _ => none
  | k + 1, x0, x3, x4 => if x4 < (x0.size : Int) then (if 0 ≤ x4 then (depotref02_bits.l1 k x0 x3 x4 (wrap64 (bt x0 x4)) 0) else (none)) else (some x3)
def depotref02_bits.l1 : Nat → ByteArray → List Int → Int → Int → Int → Option (List Int)
  | 0, _, _, _, _, _ => none
  | k + 1, x0, x3, x4, x5, x6 => if x6 < 8 then (if x3.length < 17592186044416 then (depotref02_bits.l1 k x0 (x3 ++ [Int.tmod x5 2]) x4 (wrap64 (Int.tdiv x5 2)) (wrap64 (x6 + 1))) else (none)) else (depotref02_bits.l0 k x0 x3 (wrap64 (x4 + 1)))
end
def depotref02_bits.f (k : Nat) (a0 : ByteArray) : Option (List Int) := depotref02_bits.l0 k a0 ([] : List Int) 0
theorem depotref02_bits.mono_l : ∀ k, (∀ y0 y1 y2, LeO (depotref02_bits.l0 k y0 y1 y2) (depotref02_bits.l0 (k + 1) y0 y1 y2)) ∧ (∀ y0 y1 y2 y3 y4, LeO (depotref02_bits.l1 k y0 y1 y2 y3 y4) (depotref02_bits.l1 (k + 1) y0 y1 y2 y3 y4))
  | 0 => ⟨fun _ _ _ r h => by simp [depotref02_bits.l0] at h, fun _ _ _ _ _ r h => by simp [depotref02_bits.l1] at h⟩
  | k + 1 => by
    obtain ⟨ih0, ih1⟩ := depotref02_bits.mono_l k
    refine ⟨?_, ?_⟩
    · intro y0 y1 y2
      unfold depotref02_bits.l0
      repeat' first
      | (with_reducible exact ih0 _ _ _)
      | (with_reducible exact ih1 _ _ _ _ _)
      | (with_reducible exact LeO.refl _)
      | (with_reducible exact LeO.none _)
      | (with_reducible refine LeO.ite ?_ ?_)
      | (with_reducible refine LeO.bind ?_ (fun _ => ?_))
      | exact ih0 _ _ _
      | exact ih1 _ _ _ _ _
      | exact LeO.none _
      | refine LeO.ite ?_ ?_
      | refine LeO.bind ?_ (fun _ => ?_)
    · intro y0 y1 y2 y3 y4
      unfold depotref02_bits.l1
      repeat' first
      | (with_reducible exact ih0 _ _ _)
      | (with_reducible exact ih1 _ _ _ _ _)
      | (with_reducible exact LeO.refl _)
      | (with_reducible exact LeO.none _)
      | (with_reducible refine LeO.ite ?_ ?_)
      | (with_reducible refine LeO.bind ?_ (fun _ => ?_))
      | exact ih0 _ _ _
      | exact ih1 _ _ _ _ _
      | exact LeO.none _
      | refine LeO.ite ?_ ?_
      | refine LeO.bind ?_ (fun _ => ?_)
theorem depotref02_bits.mono : ∀ a0 k, LeO (depotref02_bits.f k a0) (depotref02_bits.f (k + 1) a0) := by
  intro a0 k
  obtain ⟨ih0, ih1⟩ := depotref02_bits.mono_l k
  unfold depotref02_bits.f
  repeat' first
      | (with_reducible exact ih0 _ _ _)
      | (with_reducible exact ih1 _ _ _ _ _)
      | (with_reducible exact LeO.refl _)
      | (with_reducible exact LeO.none _)
      | (with_reducible refine LeO.ite ?_ ?_)
      | (with_reducible refine LeO.bind ?_ (fun _ => ?_))
      | exact ih0 _ _ _
      | exact ih1 _ _ _ _ _
      | exact LeO.none _
      | refine LeO.ite ?_ ?_
      | refine LeO.bind ?_ (fun _ => ?_)
set_option maxHeartbeats 8000000 in
set_option maxRecDepth 100000 in
theorem depotref02_bits.calls (k : Nat) (a0 : ByteArray) (r : List Int) (w : World) (h : depotref02_bits.f k a0 = some r) :
    Calls Tryd.prog 42 #[.string a0] w fun e w' => ∃ v0_ : Value, e = .returned (v0_) ∧ Kd.R (Kd.int .i64) 3 w' w.heap.size (fun _ => True) v0_ r ∧ Below w.heap.size w w' := by
  have HB := Aside0.mk (Below.refl w.heap.size w)
  have H : (depotref02_bits.l0 k a0 ([] : List Int) 0) = some r := h
  clear h
  have H' := Aside0.mk H
  clear H
  go_enter Tryd.func42, Tryd.ntmps42
  go_wp2
  go_loopg [3, 4] k (fun kq v3 v4 w' => ∃ (x3_1 : List Int) (x4_1 : Int), v4 = .int .i64 x4_1 ∧ Aside0 (depotref02_bits.l0 kq a0 x3_1 x4_1 = some r) ∧ Aside0 (kq ≤ k) ∧ Aside0 (Kd.R (Kd.int .i64) 3 w' w.heap.size (fun _ => True) v3 x3_1) ∧ Aside0 (Below w.heap.size w w'))
  case atStart => exact ⟨(([] : List Int)), (0), (by first | rfl | (simp; done) | (simp [*]; done)), H', ⟨Nat.le_refl _⟩, ⟨by first | exact Kd.R_nil _ _ _ _ _ | exact Kd.N_nil _ _ _ _ _ | exact Kd.V_nil _ _ _ _ _ | exact Kd.Q_nil _ _ _ _ _ | exact Kd.S_nil _ _ _ _ _⟩, ⟨by repeat (first | (with_reducible first | exact HB.out | apply below_alloc | apply pw_below_drewN | apply below_drew1) | exact HB.out)⟩⟩
  case round =>
    clear H'
    obtain ⟨x3_1, x4_1, rfl, HA, HK1, HO_3, HB⟩ := hrel
    cases gk with
    | zero => exact absurd HA.out (by simp [depotref02_bits.l0])
    | succ k1 =>
      have H := HA.out
      clear HA
      simp only [depotref02_bits.l0] at H
      by_cases c2 : x4_1 < (a0.size : Int)
      · rw [if_pos c2] at H
        have c2b0 : decide (x4_1 < (a0.size : Int)) = true := decide_eq_true c2
        clear c2
        by_cases c3 : 0 ≤ x4_1
        · rw [if_pos c3] at H
          have c3b0 : decide (0 ≤ x4_1) = true := decide_eq_true c3
          clear c3
          have H' := Aside0.mk H
          clear H
          have p4 : 0 ≤ (x4_1 : Int) := of_decide_eq_true (by first | (with_reducible assumption) | assumption)
          have q4 : x4_1 < (a0.size : Int) := of_decide_eq_true (by first | (with_reducible assumption) | assumption)
          have hx4 := bt_at a0 x4_1
          replace p4 := eq_true p4
          replace q4 := eq_true q4
          go_wp2
          go_loopg [3, 5, 6] k1 (fun kq v3 v5 v6 w' => ∃ (x3_2 : List Int) (x5_2 : Int) (x6_2 : Int), v5 = .int .i64 x5_2 ∧ v6 = .int .i64 x6_2 ∧ Aside0 (depotref02_bits.l1 kq a0 x3_2 x4_1 x5_2 x6_2 = some r) ∧ Aside0 (kq ≤ k1) ∧ Aside0 (Kd.R (Kd.int .i64) 3 w' w.heap.size (fun _ => True) v3 x3_2) ∧ Aside0 (Below w.heap.size w w'))
          case atStart => exact ⟨(x3_1), (wrap64 (bt a0 x4_1)), (0), (by first | rfl | (simp; done) | (simp [*]; done)), (by first | rfl | (simp; done) | (simp [*]; done)), H', ⟨Nat.le_refl _⟩, ⟨by (with_reducible repeat (first | apply Kd.R_alloc | apply Kd.R_drewN | apply Kd.R_drew)); exact HO_3.out⟩, ⟨by repeat (first | (with_reducible first | exact HB.out | apply below_alloc | apply pw_below_drewN | apply below_drew1) | exact HB.out)⟩⟩
          case round =>
            clear H'
            try clear c2
            try clear c2b0
            try clear p2
            try clear c3
            try clear c3b0
            try clear c4
            try clear p4
            try clear q4
            try clear hx4
            try clear p4
            try clear q4
            obtain ⟨x3_2, x5_2, x6_2, rfl, rfl, HA, HK2, HO_3, HB⟩ := hrel
            cases gk with
            | zero => exact absurd HA.out (by simp [depotref02_bits.l1])
            | succ k2 =>
              have H := HA.out
              clear HA
              simp only [depotref02_bits.l1] at H
              by_cases c5 : x6_2 < 8
              · rw [if_pos c5] at H
                have c5b0 : decide (x6_2 < 8) = true := decide_eq_true c5
                clear c5
                by_cases c6 : x3_2.length < 17592186044416
                · rw [if_pos c6] at H
                  have LMc6 := Aside0.mk c6
                  clear c6
                  obtain ⟨y175, hy175⟩ : ∃ y_ : List Int, y_ = (x3_2 ++ [Int.tmod x5_2 2]) := ⟨_, rfl⟩
                  replace H : (depotref02_bits.l1 k2 a0 y175 x4_1 (wrap64 (Int.tdiv x5_2 2)) (wrap64 (x6_2 + 1))) = some r := by first | (rw [hy175]; with_reducible exact H) | (have H2_ := (Option.bind_some _ _).symm.trans H; rw [hy175]; with_reducible exact H2_) | (have H2_ := (Option.bind_some _ _).symm.trans H; with_reducible exact H2_) | with_reducible exact H | (rw [hy175]; exact H) | exact H
                  have Ny175 := Aside0.mk hy175
                  clear hy175
                  have H' := Aside0.mk H
                  clear H
                  go_wp2_with (first | ((with_reducible refine gate_builtin (b := .append) (xs := #[.tmp 21, .tmp 24]) rfl ?_); at_builtin; refine Kd.R_append (Kd.int .i64) (w0 := w) w.heap.size rfl (.tmp 21) (.tmp 24) 73 3 (.int .i64 0) 8 rfl Tryd.underlying73 info3 rfl (by decide) (by omega) u3 x3_2 (Int.tmod x5_2 2) [.int .i64 (Int.tmod x5_2 2)] (fun _ => True) (fun _ => False) rfl rfl ?aP (fun _ hk => hk.elim) ?aF ?aO ?aB ?aS ?aL ?_; (case aP => exact rfl); (case aB => exact (by repeat (first | (with_reducible first | exact HB.out | apply below_alloc | apply pw_below_drewN | apply below_drew1) | exact HB.out))); (case aF => exact (fun _ _ => trivial)); (case aO => exact (by (with_reducible repeat (first | apply Kd.R_alloc | apply Kd.R_drewN | apply Kd.R_drew)); exact HO_3.out)); (case aS => exact (below_size (by repeat (first | (with_reducible first | exact HB.out | apply below_alloc | apply pw_below_drewN | apply below_drew1) | exact HB.out)))); (case aL => have := LMc6.out; omega); intro v176 w7 ho hb hg hat; rw [← Ny175.out] at ho; have n0_ := Aside0.mk (hb); have n1_ := Aside0.mk (ho); clear HB; clear HO_3; have HB := n0_; have HO177 := n1_; clear n0_ n1_; clear ho hb hg hat))
                  go_roundg k2
                  case measure => have := HK1.out; have := HK2.out; omega
                  case rel => exact ⟨(y175), (wrap64 (Int.tdiv x5_2 2)), (wrap64 (x6_2 + 1)), (by first | rfl | (simp; done) | (simp [*]; done)), (by first | rfl | (simp; done) | (simp [*]; done)), H', ⟨by have := HK1.out; have := HK2.out; omega⟩, ⟨by (with_reducible repeat (first | apply Kd.R_alloc | apply Kd.R_drewN | apply Kd.R_drew)); exact HO177.out⟩, ⟨by repeat (first | (with_reducible first | exact HB.out | apply below_alloc | apply pw_below_drewN | apply below_drew1) | exact HB.out)⟩⟩
                · rw [if_neg c6] at H
                  exact absurd H (by simp)
              · rw [if_neg c5] at H
                have c5b0 : decide (x6_2 < 8) = false := decide_eq_false c5
                clear c5
                have H' := Aside0.mk H
                clear H
                go_wp2
                go_roundg k2
                case measure => have := HK1.out; have := HK2.out; omega
                case rel => exact ⟨(x3_2), (wrap64 (x4_1 + 1)), (by first | rfl | (simp; done) | (simp [*]; done)), H', ⟨by have := HK1.out; have := HK2.out; omega⟩, ⟨by (with_reducible repeat (first | apply Kd.R_alloc | apply Kd.R_drewN | apply Kd.R_drew)); exact HO_3.out⟩, ⟨by repeat (first | (with_reducible first | exact HB.out | apply below_alloc | apply pw_below_drewN | apply below_drew1) | exact HB.out)⟩⟩
        · rw [if_neg c3] at H
          exact absurd H (by simp)
      · rw [if_neg c2] at H
        have c2b0 : decide (x4_1 < (a0.size : Int)) = false := decide_eq_false c2
        clear c2
        obtain rfl := Option.some.inj H
        go_wp2
        go_ret
        exact ⟨_, by first | rfl | (simp [errW_none, errW_some] <;> rfl) | (simp [*, errW_none, errW_some] <;> rfl), by (with_reducible repeat (first | apply Kd.R_alloc | apply Kd.R_drewN | apply Kd.R_drew)); exact HO_3.out, by repeat (first | (with_reducible first | exact HB.out | apply below_alloc | apply pw_below_drewN | apply below_drew1) | exact HB.out)⟩

end Go.Proofs.YtglhbbijoeeclaaDoor.Q
/- By a program of this session's: a plain Lean function for a Go function, and its contract. -/
namespace Go.Proofs.YtglhbbijoeeclaaDoor.Q
open Go.RowKit Go.Proofs.YtglhbbijoeeclaaDoorW.PrintWords Go.Proofs.YtglhbbijoeeclaaDoorW.PrintLast Go.Proofs.YtglhbbijoeeclaaDoorW.PrintMore
attribute [local go_sem] max2_int min2_int max_two min_two max_three min_three max_four min_four Go.Proofs.YtglhbbijoeeclaaDoor.Ord.str_leq Go.Proofs.YtglhbbijoeeclaaDoor.Ord.str_gtr Go.Proofs.YtglhbbijoeeclaaDoor.Ord.str_geq   -- for this text's walks alone
set_option linter.unusedVariables false
set_option linter.unusedSimpArgs false

/-! ### depotref02_Base32: function 26 -/
mutual
def depotref02_Base32.l0 : Nat → List Int → List Int → Int → Option (ByteArray)
  | 0, _, _, _ => none
  | k + 1, x3, x4, x5 => if x5 < (x3.length : Int) then (depotref02_Base32.l1 k x3 x4 x5 0 4) else (if 0 ≤ (x4.length : Int) then (if ((x4.length : Int) : Int).toNat ≤ 281474976710656 then (depotref02_Base32.l2 k x4 (List.replicate ((x4.length : Int) : Int).toNat 0) 0) else (none)) else (none))
def depotref02_Base32.l1 : Nat → List Int → List Int → Int → Int → Int → Option (ByteArray)
  | 0, _, _, _, _, _ => none
  | k + 1, x3, x4, x5, x6, x7 => if x7 ≥ 0 then (if (wrap64 (x5 + x7)) < (x3.length : Int) then (if 0 ≤ (wrap64 (x5 + x7)) then (depotref02_Base32.l1 k x3 x4 x5 (wrap64 ((wrap64 (x6 * 2)) + (rd x3 (wrap64 (x5 + x7))))) (wrap64 (x7 - 1))) else (none)) else (depotref02_Base32.l1 k x3 x4 x5 (wrap64 (x6 * 2)) (wrap64 (x7 - 1)))) else (if 0 ≤ x6 then (if x6 < 32 then (if x4.length < 140737488355328 then (depotref02_Base32.l0 k x3 (x4 ++ [bt (⟨#[48, 49, 50, 51, 52, 53, 54, 55, 56, 57, 97, 98, 99, 100, 102, 103, 104, 105, 106, 107, 108, 109, 110, 112, 113, 114, 115, 118, 119, 120, 121, 122]⟩ : ByteArray) x6]) (wrap64 (x5 + 5))) else (none)) else (none)) else (none))
def depotref02_Base32.l2 : Nat → List Int → List Int → Int → Option (ByteArray)
  | 0, _, _, _ => none
  | k + 1, x4, x8, x9 => if x9 < (x4.length : Int) then (if 0 ≤ x9 then (if 0 ≤ (wrap64 ((wrap64 ((x4.length : Int) - 1)) - x9)) then (if (wrap64 ((wrap64 ((x4.length : Int) - 1)) - x9)) < (x8.length : Int) then (depotref02_Base32.l2 k x4 (x8.set ((wrap64 ((wrap64 ((x4.length : Int) - 1)) - x9)) : Int).toNat (rd x4 x9)) (wrap64 (x9 + 1))) else (none)) else (none)) else (none)) else (some (strOfNums x8))
end
def depotref02_Base32.f (k : Nat) (a0 : ByteArray) : Option (ByteArray) := (depotref02_bits.f k a0).bind fun t178 => (depotref02_Base32.l0 k t178 ([] : List Int) 0)
theorem depotref02_Base32.mono_l : ∀ k, (∀ y0 y1 y2, LeO (depotref02_Base32.l0 k y0 y1 y2) (depotref02_Base32.l0 (k + 1) y0 y1 y2)) ∧ (∀ y0 y1 y2 y3 y4, LeO (depotref02_Base32.l1 k y0 y1 y2 y3 y4) (depotref02_Base32.l1 (k + 1) y0 y1 y2 y3 y4)) ∧ (∀ y0 y1 y2, LeO (depotref02_Base32.l2 k y0 y1 y2) (depotref02_Base32.l2 (k + 1) y0 y1 y2))
  | 0 => ⟨fun _ _ _ r h => by simp [depotref02_Base32.l0] at h, fun _ _ _ _ _ r h => by simp [depotref02_Base32.l1] at h, fun _ _ _ r h => by simp [depotref02_Base32.l2] at h⟩
  | k + 1 => by
    obtain ⟨ih0, ih1, ih2⟩ := depotref02_Base32.mono_l k
    refine ⟨?_, ?_, ?_⟩
    · intro y0 y1 y2
      unfold depotref02_Base32.l0
      repeat' first
      | (with_reducible exact ih0 _ _ _)
      | (with_reducible exact ih1 _ _ _ _ _)
      | (with_reducible exact ih2 _ _ _)
      | (with_reducible exact depotref02_bits.mono _ _)
      | (with_reducible exact LeO.refl _)
      | (with_reducible exact LeO.none _)
      | (with_reducible refine LeO.ite ?_ ?_)
      | (with_reducible refine LeO.bind ?_ (fun _ => ?_))
      | exact ih0 _ _ _
      | exact ih1 _ _ _ _ _
      | exact ih2 _ _ _
      | exact depotref02_bits.mono _ _
      | exact LeO.none _
      | refine LeO.ite ?_ ?_
      | refine LeO.bind ?_ (fun _ => ?_)
    · intro y0 y1 y2 y3 y4
      unfold depotref02_Base32.l1
      repeat' first
      | (with_reducible exact ih0 _ _ _)
      | (with_reducible exact ih1 _ _ _ _ _)
      | (with_reducible exact ih2 _ _ _)
      | (with_reducible exact depotref02_bits.mono _ _)
      | (with_reducible exact LeO.refl _)
      | (with_reducible exact LeO.none _)
      | (with_reducible refine LeO.ite ?_ ?_)
      | (with_reducible refine LeO.bind ?_ (fun _ => ?_))
      | exact ih0 _ _ _
      | exact ih1 _ _ _ _ _
      | exact ih2 _ _ _
      | exact depotref02_bits.mono _ _
      | exact LeO.none _
      | refine LeO.ite ?_ ?_
      | refine LeO.bind ?_ (fun _ => ?_)
    · intro y0 y1 y2
      unfold depotref02_Base32.l2
      repeat' first
      | (with_reducible exact ih0 _ _ _)
      | (with_reducible exact ih1 _ _ _ _ _)
      | (with_reducible exact ih2 _ _ _)
      | (with_reducible exact depotref02_bits.mono _ _)
      | (with_reducible exact LeO.refl _)
      | (with_reducible exact LeO.none _)
      | (with_reducible refine LeO.ite ?_ ?_)
      | (with_reducible refine LeO.bind ?_ (fun _ => ?_))
      | exact ih0 _ _ _
      | exact ih1 _ _ _ _ _
      | exact ih2 _ _ _
      | exact depotref02_bits.mono _ _
      | exact LeO.none _
      | refine LeO.ite ?_ ?_
      | refine LeO.bind ?_ (fun _ => ?_)
theorem depotref02_Base32.mono : ∀ a0 k, LeO (depotref02_Base32.f k a0) (depotref02_Base32.f (k + 1) a0) := by
  intro a0 k
  obtain ⟨ih0, ih1, ih2⟩ := depotref02_Base32.mono_l k
  unfold depotref02_Base32.f
  repeat' first
      | (with_reducible exact ih0 _ _ _)
      | (with_reducible exact ih1 _ _ _ _ _)
      | (with_reducible exact ih2 _ _ _)
      | (with_reducible exact depotref02_bits.mono _ _)
      | (with_reducible exact LeO.refl _)
      | (with_reducible exact LeO.none _)
      | (with_reducible refine LeO.ite ?_ ?_)
      | (with_reducible refine LeO.bind ?_ (fun _ => ?_))
      | exact ih0 _ _ _
      | exact ih1 _ _ _ _ _
      | exact ih2 _ _ _
      | exact depotref02_bits.mono _ _
      | exact LeO.none _
      | refine LeO.ite ?_ ?_
      | refine LeO.bind ?_ (fun _ => ?_)
set_option maxHeartbeats 8000000 in
set_option maxRecDepth 100000 in
theorem depotref02_Base32.calls (k : Nat) (a0 : ByteArray) (r : ByteArray) (w : World) (h : depotref02_Base32.f k a0 = some r) :
    Calls Tryd.prog 26 #[.string a0] w fun e w' => e = .returned (.string r) ∧ Below w.heap.size w w' := by
  have HB := Aside0.mk (Below.refl w.heap.size w)
  have H : ((depotref02_bits.f k a0).bind fun t178 => (depotref02_Base32.l0 k t178 ([] : List Int) 0)) = some r := h
  clear h
  replace H := Option.bind_eq_some_iff.mp H
  obtain ⟨t178, A20, H⟩ := H
  replace H : (depotref02_Base32.l0 k t178 ([] : List Int) 0) = some r := H
  have A2 := Aside0.mk A20
  clear A20
  have H' := Aside0.mk H
  clear H
  go_enter Tryd.func26, Tryd.ntmps26
  go_wp2_with (first | ((with_reducible refine gate_callee (f := 42) rfl ?_); refine goesL_ (some 11) rfl rfl Tryd.func42 (by kernel_rfl) rfl #[.string a0] rfl (by (try simp only [List.map_toArray, List.map_cons, List.map_nil]); first | done | rfl | (simp only [List.length_drop, List.length_take]; rfl)) ?_; (with_reducible refine (depotref02_bits.calls k a0 t178 _ A2.out).mono ?_); rintro e w3 ⟨v179, rfl, ho0, hb⟩; refine ⟨_, rfl, ?_⟩; have n0_ := Aside0.mk (Kd.R_lower ho0 (below_size (by repeat (first | (with_reducible first | exact HB.out | apply below_alloc | apply pw_below_drewN | apply below_drew1) | exact HB.out)))); have n1_ := Aside0.mk (below_step (by repeat (first | (with_reducible first | exact HB.out | apply below_alloc | apply pw_below_drewN | apply below_drew1) | exact HB.out)) hb); clear HB; have HO180 := n0_; have HB := n1_; clear n0_ n1_; (try clear hb); (try clear hb2); (try clear hk); (try clear hi); (try clear ho0)))
  go_loopg [4, 5] k (fun kq v4 v5 w' => ∃ (x4_1 : List Int) (x5_1 : Int), v5 = .int .i64 x5_1 ∧ Aside0 (depotref02_Base32.l0 kq t178 x4_1 x5_1 = some r) ∧ Aside0 (kq ≤ k) ∧ Aside0 (Kd.R (Kd.int .i64) 3 w' w.heap.size (fun _ => True) v179 t178) ∧ Aside0 (Kd.R (Kd.int .u8) 5 w' w.heap.size (fun _ => True) v4 x4_1) ∧ Aside0 (Below w.heap.size w w'))
  case atStart => exact ⟨(([] : List Int)), (0), (by first | rfl | (simp; done) | (simp [*]; done)), H', ⟨Nat.le_refl _⟩, ⟨by (with_reducible repeat (first | apply Kd.R_alloc | apply Kd.R_drewN | apply Kd.R_drew)); exact HO180.out⟩, ⟨by first | exact Kd.R_nil _ _ _ _ _ | exact Kd.N_nil _ _ _ _ _ | exact Kd.V_nil _ _ _ _ _ | exact Kd.Q_nil _ _ _ _ _ | exact Kd.S_nil _ _ _ _ _⟩, ⟨by repeat (first | (with_reducible first | exact HB.out | apply below_alloc | apply pw_below_drewN | apply below_drew1) | exact HB.out)⟩⟩
  case round =>
    clear H'
    try clear c2
    try clear p2
    obtain ⟨x4_1, x5_1, rfl, HA, HK1, HO_3, HO_4, HB⟩ := hrel
    cases gk with
    | zero => exact absurd HA.out (by simp [depotref02_Base32.l0])
    | succ k1 =>
      have H := HA.out
      clear HA
      simp only [depotref02_Base32.l0] at H
      by_cases c4 : x5_1 < (t178.length : Int)
      · rw [if_pos c4] at H
        have c4b0 : decide (x5_1 < (t178.length : Int)) = true := decide_eq_true c4
        clear c4
        have H' := Aside0.mk H
        clear H
        obtain ⟨Ao5, co5, eo5⟩ := Kd.R_slice HO_3.out
        subst eo5
        go_wp2
        go_loopg [6, 7] k1 (fun kq v6 v7 w' => ∃ (x6_2 : Int) (x7_2 : Int), v6 = .int .i64 x6_2 ∧ v7 = .int .i64 x7_2 ∧ Aside0 (depotref02_Base32.l1 kq t178 x4_1 x5_1 x6_2 x7_2 = some r) ∧ Aside0 (kq ≤ k1) ∧ Aside0 (Kd.R (Kd.int .i64) 3 w' w.heap.size (fun _ => True) (.slice Ao5 t178.length co5) t178) ∧ Aside0 (Kd.R (Kd.int .u8) 5 w' w.heap.size (fun _ => True) u4 x4_1) ∧ Aside0 (Below w.heap.size w w'))
        case atStart => exact ⟨(0), (4), (by first | rfl | (simp; done) | (simp [*]; done)), (by first | rfl | (simp; done) | (simp [*]; done)), H', ⟨Nat.le_refl _⟩, ⟨by (with_reducible repeat (first | apply Kd.R_alloc | apply Kd.R_drewN | apply Kd.R_drew)); exact HO_3.out⟩, ⟨by (with_reducible repeat (first | apply Kd.R_alloc | apply Kd.R_drewN | apply Kd.R_drew)); exact HO_4.out⟩, ⟨by repeat (first | (with_reducible first | exact HB.out | apply below_alloc | apply pw_below_drewN | apply below_drew1) | exact HB.out)⟩⟩
        case round =>
          clear H'
          try clear c2
          try clear p2
          try clear c4
          try clear c4b0
          try clear p2
          obtain ⟨x6_2, x7_2, rfl, rfl, HA, HK2, HO_3, HO_4, HB⟩ := hrel
          cases gk with
          | zero => exact absurd HA.out (by simp [depotref02_Base32.l1])
          | succ k2 =>
            have H := HA.out
            clear HA
            simp only [depotref02_Base32.l1] at H
            by_cases c6 : x7_2 ≥ 0
            · rw [if_pos c6] at H
              have c6b0 : decide (0 ≤ x7_2) = true := decide_eq_true c6
              clear c6
              by_cases c7 : (wrap64 (x5_1 + x7_2)) < (t178.length : Int)
              · rw [if_pos c7] at H
                have c7b0 : decide ((wrap64 (x5_1 + x7_2)) < (t178.length : Int)) = true := decide_eq_true c7
                clear c7
                obtain ⟨ji8, hji8⟩ : ∃ j_ : Int, (wrap64 (x5_1 + x7_2)) = j_ := ⟨_, rfl⟩
                replace H : (if 0 ≤ (ji8) then (depotref02_Base32.l1 k2 t178 x4_1 x5_1 (wrap64 ((wrap64 (x6_2 * 2)) + (rd t178 (ji8)))) (wrap64 (x7_2 - 1))) else (none)) = some r := by first | (rw [hji8] at H; exact H) | (simp only [hji8] at H ⊢; exact H)
                (try rw [hji8] at c7b0)
                have hji8w : (IntKind.i64.wrap (x5_1 + x7_2)) = ji8 := (i64_w _).trans hji8
                by_cases c9 : 0 ≤ (ji8)
                · rw [if_pos c9] at H
                  have c9b0 : decide (0 ≤ (ji8)) = true := decide_eq_true c9
                  clear c9
                  have H' := Aside0.mk H
                  clear H
                  have p181 : 0 ≤ ((ji8) : Int) := of_decide_eq_true (by first | (with_reducible assumption) | assumption)
                  have q181 : (ji8) < (t178.length : Int) := of_decide_eq_true (by first | (with_reducible assumption) | assumption)
                  obtain ⟨ad181, e181, hx181_0⟩ := Kd.at_int (Kd.R_reads' HO_3.out).2.2 (ji8) p181 q181
                  cases e181
                  replace p181 := eq_true p181
                  replace q181 := eq_true q181
                  go_wp2
                  go_roundg k2
                  case measure => have := HK1.out; have := HK2.out; omega
                  case rel => exact ⟨(wrap64 ((wrap64 (x6_2 * 2)) + (rd t178 (ji8)))), (wrap64 (x7_2 - 1)), (by first | rfl | (simp; done) | (simp only [← hji8] <;> (first | rfl | simp)) | (simp [*]; done)), (by first | rfl | (simp; done) | (simp [*]; done)), H', ⟨by have := HK1.out; have := HK2.out; omega⟩, ⟨by (with_reducible repeat (first | apply Kd.R_alloc | apply Kd.R_drewN | apply Kd.R_drew)); exact HO_3.out⟩, ⟨by (with_reducible repeat (first | apply Kd.R_alloc | apply Kd.R_drewN | apply Kd.R_drew)); exact HO_4.out⟩, ⟨by repeat (first | (with_reducible first | exact HB.out | apply below_alloc | apply pw_below_drewN | apply below_drew1) | exact HB.out)⟩⟩
                · rw [if_neg c9] at H
                  exact absurd H (by simp)
              · rw [if_neg c7] at H
                have c7b0 : decide ((wrap64 (x5_1 + x7_2)) < (t178.length : Int)) = false := decide_eq_false c7
                clear c7
                have H' := Aside0.mk H
                clear H
                go_wp2
                go_roundg k2
                case measure => have := HK1.out; have := HK2.out; omega
                case rel => exact ⟨(wrap64 (x6_2 * 2)), (wrap64 (x7_2 - 1)), (by first | rfl | (simp; done) | (simp [*]; done)), (by first | rfl | (simp; done) | (simp [*]; done)), H', ⟨by have := HK1.out; have := HK2.out; omega⟩, ⟨by (with_reducible repeat (first | apply Kd.R_alloc | apply Kd.R_drewN | apply Kd.R_drew)); exact HO_3.out⟩, ⟨by (with_reducible repeat (first | apply Kd.R_alloc | apply Kd.R_drewN | apply Kd.R_drew)); exact HO_4.out⟩, ⟨by repeat (first | (with_reducible first | exact HB.out | apply below_alloc | apply pw_below_drewN | apply below_drew1) | exact HB.out)⟩⟩
            · rw [if_neg c6] at H
              have c6b0 : decide (0 ≤ x7_2) = false := decide_eq_false c6
              clear c6
              by_cases c10 : 0 ≤ x6_2
              · rw [if_pos c10] at H
                have c10b0 : decide (0 ≤ x6_2) = true := decide_eq_true c10
                clear c10
                by_cases c11 : x6_2 < 32
                · rw [if_pos c11] at H
                  have c11b0 : decide (x6_2 < 32) = true := decide_eq_true c11
                  clear c11
                  by_cases c13 : x4_1.length < 140737488355328
                  · rw [if_pos c13] at H
                    have LMc13 := Aside0.mk c13
                    clear c13
                    obtain ⟨y182, hy182⟩ : ∃ y_ : List Int, y_ = (x4_1 ++ [bt (⟨#[48, 49, 50, 51, 52, 53, 54, 55, 56, 57, 97, 98, 99, 100, 102, 103, 104, 105, 106, 107, 108, 109, 110, 112, 113, 114, 115, 118, 119, 120, 121, 122]⟩ : ByteArray) x6_2]) := ⟨_, rfl⟩
                    replace H : (depotref02_Base32.l0 k2 t178 y182 (wrap64 (x5_1 + 5))) = some r := by first | (rw [hy182]; with_reducible exact H) | (have H2_ := (Option.bind_some _ _).symm.trans H; rw [hy182]; with_reducible exact H2_) | (have H2_ := (Option.bind_some _ _).symm.trans H; with_reducible exact H2_) | with_reducible exact H | (rw [hy182]; exact H) | exact H
                    have Ny182 := Aside0.mk hy182
                    clear hy182
                    have H' := Aside0.mk H
                    clear H
                    have p12 : 0 ≤ (x6_2 : Int) := of_decide_eq_true (by first | (with_reducible assumption) | assumption)
                    have q12 : x6_2 < (32 : Int) := of_decide_eq_true (by first | (with_reducible assumption) | assumption)
                    have hx12 := bt_at (⟨#[48, 49, 50, 51, 52, 53, 54, 55, 56, 57, 97, 98, 99, 100, 102, 103, 104, 105, 106, 107, 108, 109, 110, 112, 113, 114, 115, 118, 119, 120, 121, 122]⟩ : ByteArray) x6_2
                    replace p12 := eq_true p12
                    replace q12 := eq_true q12
                    go_wp2_with (first | ((with_reducible refine gate_builtin (b := .append) (xs := #[.tmp 38, .tmp 41]) rfl ?_); at_builtin; refine Kd.R_append (Kd.int .u8) (w0 := w) w.heap.size rfl (.tmp 38) (.tmp 41) 34 5 (.int .u8 0) 1 rfl Tryd.underlying34 info5 rfl (by decide) (by omega) u4 x4_1 (bt (⟨#[48, 49, 50, 51, 52, 53, 54, 55, 56, 57, 97, 98, 99, 100, 102, 103, 104, 105, 106, 107, 108, 109, 110, 112, 113, 114, 115, 118, 119, 120, 121, 122]⟩ : ByteArray) x6_2) [.int .u8 (bt (⟨#[48, 49, 50, 51, 52, 53, 54, 55, 56, 57, 97, 98, 99, 100, 102, 103, 104, 105, 106, 107, 108, 109, 110, 112, 113, 114, 115, 118, 119, 120, 121, 122]⟩ : ByteArray) x6_2)] (fun _ => True) (fun _ => False) rfl rfl ?aP (fun _ hk => hk.elim) ?aF ?aO ?aB ?aS ?aL ?_; (case aP => exact rfl); (case aB => exact (by repeat (first | (with_reducible first | exact HB.out | apply below_alloc | apply pw_below_drewN | apply below_drew1) | exact HB.out))); (case aF => exact (fun _ _ => trivial)); (case aO => exact (by (with_reducible repeat (first | apply Kd.R_alloc | apply Kd.R_drewN | apply Kd.R_drew)); exact HO_4.out)); (case aS => exact (below_size (by repeat (first | (with_reducible first | exact HB.out | apply below_alloc | apply pw_below_drewN | apply below_drew1) | exact HB.out)))); (case aL => have := LMc13.out; omega); intro v183 w14 ho hb hg hat; rw [← Ny182.out] at ho; have n0_ := Aside0.mk (Kd.R_over' (by (with_reducible repeat (first | apply Kd.R_alloc | apply Kd.R_drewN | apply Kd.R_drew)); exact HO_3.out) (Kd.R_typed (by (with_reducible repeat (first | apply Kd.R_alloc | apply Kd.R_drewN | apply Kd.R_drew)); exact HO_4.out)) (by decide) hg); have n1_ := Aside0.mk (hb); have n2_ := Aside0.mk (ho); clear HO_3; clear HB; clear HO_4; have HO_3 := n0_; have HB := n1_; have HO184 := n2_; clear n0_ n1_ n2_; clear ho hb hg hat))
                    go_roundg k2
                    case measure => have := HK1.out; have := HK2.out; omega
                    case rel => exact ⟨(y182), (wrap64 (x5_1 + 5)), (by first | rfl | (simp; done) | (simp [*]; done)), H', ⟨by have := HK1.out; have := HK2.out; omega⟩, ⟨by (with_reducible repeat (first | apply Kd.R_alloc | apply Kd.R_drewN | apply Kd.R_drew)); exact HO_3.out⟩, ⟨by (with_reducible repeat (first | apply Kd.R_alloc | apply Kd.R_drewN | apply Kd.R_drew)); exact HO184.out⟩, ⟨by repeat (first | (with_reducible first | exact HB.out | apply below_alloc | apply pw_below_drewN | apply below_drew1) | exact HB.out)⟩⟩
                  · rw [if_neg c13] at H
                    exact absurd H (by simp)
                · rw [if_neg c11] at H
                  exact absurd H (by simp)
              · rw [if_neg c10] at H
                exact absurd H (by simp)
      · rw [if_neg c4] at H
        have c4b0 : decide (x5_1 < (t178.length : Int)) = false := decide_eq_false c4
        clear c4
        by_cases c15 : 0 ≤ (x4_1.length : Int)
        · rw [if_pos c15] at H
          have c15b0 := eq_true c15
          have c15b1 : decide (0 ≤ (x4_1.length : Int)) = true := decide_eq_true c15
          clear c15
          by_cases c16 : ((x4_1.length : Int) : Int).toNat ≤ 281474976710656
          · rw [if_pos c16] at H
            have c16b0 := eq_true c16
            have c16b1 : decide (((x4_1.length : Int) : Int).toNat ≤ 281474976710656) = true := decide_eq_true c16
            clear c16
            obtain ⟨y185, hy185⟩ : ∃ y_ : List Int, y_ = (List.replicate ((x4_1.length : Int) : Int).toNat 0) := ⟨_, rfl⟩
            replace H : (depotref02_Base32.l2 k1 x4_1 y185 0) = some r := by first | (rw [hy185]; with_reducible exact H) | (have H2_ := (Option.bind_some _ _).symm.trans H; rw [hy185]; with_reducible exact H2_) | (have H2_ := (Option.bind_some _ _).symm.trans H; with_reducible exact H2_) | with_reducible exact H | (rw [hy185]; exact H) | exact H
            have Ny185 := Aside0.mk hy185
            clear hy185
            have H' := Aside0.mk H
            clear H
            obtain ⟨Ao17, co17, eo17⟩ := Kd.R_slice HO_3.out
            subst eo17
            obtain ⟨Ao18, co18, eo18⟩ := Kd.R_slice HO_4.out
            subst eo18
            go_wp2_with (first | ((with_reducible refine gate_dst (N := 45) rfl ?_); refine Kd.R_make (Kd.int .u8) _ 5 rfl (N := 45) rfl 34 _ _ rfl (x4_1.length : Int) rfl rfl Tryd.underlying34 (.int .u8 0) 1 info5 rfl (by decide) (by omega) 0 (ok := fun _ => True) (okp := fun _ => True) rfl (fun _ hk => hk) trivial (of_decide_eq_true (by first | (with_reducible assumption) | assumption)) (Nat.le_trans (Nat.mul_le_mul_right _ (of_decide_eq_true (by first | (with_reducible assumption) | assumption) : (x4_1.length : Int).toNat ≤ 281474976710656)) (by omega)) (Below.refl _ _) (Nat.le_refl _) ?_; intro v186 w19 ho20 hb hg_ hnew_; clear hg_ hnew_; (first | rw [← Ny185.out] at ho20 | (simp only [Int.reduceToNat] at ho20; rw [← Ny185.out] at ho20)); have n0_ := Aside0.mk (Kd.R_below (by (with_reducible repeat (first | apply Kd.R_alloc | apply Kd.R_drewN | apply Kd.R_drew)); exact HO_3.out) hb); have n1_ := Aside0.mk (Kd.R_elder' (by (with_reducible repeat (first | apply Kd.R_alloc | apply Kd.R_drewN | apply Kd.R_drew)); exact HO_4.out) (Kd.R_base ho20) hb); have n2_ := Aside0.mk (Kd.R_lower (Kd.R_new' ho20 (Kd.R_lt (by (with_reducible repeat (first | apply Kd.R_alloc | apply Kd.R_drewN | apply Kd.R_drew)); exact HO_4.out))) (below_size (by repeat (first | (with_reducible first | exact HB.out | apply below_alloc | apply pw_below_drewN | apply below_drew1) | exact HB.out)))); have n3_ := Aside0.mk (below_step (by repeat (first | (with_reducible first | exact HB.out | apply below_alloc | apply pw_below_drewN | apply below_drew1) | exact HB.out)) hb); clear HO_3; clear HO_4; clear HB; have HO_3 := n0_; have HO_4 := n1_; have HO187 := n2_; have HB := n3_; clear n0_ n1_ n2_ n3_; clear hb ho20))
            go_loopg [9] k1 (fun kq v9 w' => ∃ (x8_2 : List Int) (x9_2 : Int), v9 = .int .i64 x9_2 ∧ Aside0 (depotref02_Base32.l2 kq x4_1 x8_2 x9_2 = some r) ∧ Aside0 (kq ≤ k1) ∧ Aside0 (Kd.R (Kd.int .u8) 5 w' w.heap.size (fun k_ => some k_ ≠ (v186 : Value).ownBlock) (.slice Ao18 x4_1.length co18) x4_1) ∧ Aside0 (Kd.R (Kd.int .u8) 5 w' w.heap.size (fun k_ => some k_ ≠ ((.slice Ao18 x4_1.length co18) : Value).ownBlock) v186 x8_2) ∧ Aside0 (Below w.heap.size w w'))
            case atStart => exact ⟨(y185), (0), (by first | rfl | (simp; done) | (simp [*]; done)), H', ⟨Nat.le_refl _⟩, ⟨by (with_reducible repeat (first | apply Kd.R_alloc | apply Kd.R_drewN | apply Kd.R_drew)); exact Kd.R_mono HO_4.out (fun _ hk => hk.2)⟩, ⟨by (with_reducible repeat (first | apply Kd.R_alloc | apply Kd.R_drewN | apply Kd.R_drew)); exact Kd.R_mono HO187.out (fun _ hk => hk.2)⟩, ⟨by repeat (first | (with_reducible first | exact HB.out | apply below_alloc | apply pw_below_drewN | apply below_drew1) | exact HB.out)⟩⟩
            case round =>
              clear H'
              try clear c1
              try clear p1
              try clear q1
              try clear hx1
              try clear c2
              try clear p2
              try clear c4
              try clear c4b0
              try clear c6
              try clear c6b0
              try clear p6
              try clear c7
              try clear c7b0
              try clear c9
              try clear c9b0
              try clear c10
              try clear c10b0
              try clear c11
              try clear c11b0
              try clear p12
              try clear q12
              try clear hx12
              try clear c13
              try clear c15
              try clear c15b0
              try clear c15b1
              try clear c16
              try clear c16b0
              try clear c16b1
              try clear p18
              try clear q18
              try clear hx18
              try clear hx181_0
              try clear p12
              try clear p181
              try clear p2
              try clear q12
              try clear q181
              obtain ⟨x8_2, x9_2, rfl, HA, HK2, HO_4, HO_8, HB⟩ := hrel
              cases gk with
              | zero => exact absurd HA.out (by simp [depotref02_Base32.l2])
              | succ k2 =>
                have H := HA.out
                clear HA
                simp only [depotref02_Base32.l2] at H
                by_cases c21 : x9_2 < (x4_1.length : Int)
                · rw [if_pos c21] at H
                  have c21b0 : decide (x9_2 < (x4_1.length : Int)) = true := decide_eq_true c21
                  clear c21
                  by_cases c22 : 0 ≤ x9_2
                  · rw [if_pos c22] at H
                    have c22b0 : decide (0 ≤ x9_2) = true := decide_eq_true c22
                    clear c22
                    obtain ⟨ji23, hji23⟩ : ∃ j_ : Int, (wrap64 ((wrap64 ((x4_1.length : Int) - 1)) - x9_2)) = j_ := ⟨_, rfl⟩
                    replace H : (if 0 ≤ (ji23) then (if (ji23) < (x8_2.length : Int) then (depotref02_Base32.l2 k2 x4_1 (x8_2.set ((ji23) : Int).toNat (rd x4_1 x9_2)) (wrap64 (x9_2 + 1))) else (none)) else (none)) = some r := by first | (rw [hji23] at H; exact H) | (simp only [hji23] at H ⊢; exact H)
                    have hji23w : (IntKind.i64.wrap ((wrap64 ((x4_1.length : Int) - 1)) - x9_2)) = ji23 := (i64_w _).trans hji23
                    by_cases c24 : 0 ≤ (ji23)
                    · rw [if_pos c24] at H
                      have c24b0 : decide (0 ≤ (ji23)) = true := decide_eq_true c24
                      clear c24
                      by_cases c25 : (ji23) < (x8_2.length : Int)
                      · rw [if_pos c25] at H
                        have c25b0 : decide ((ji23) < (x8_2.length : Int)) = true := decide_eq_true c25
                        clear c25
                        obtain ⟨y189, hy189⟩ : ∃ y_ : List Int, y_ = (x8_2.set ((ji23) : Int).toNat (rd x4_1 x9_2)) := ⟨_, rfl⟩
                        replace H : (depotref02_Base32.l2 k2 x4_1 y189 (wrap64 (x9_2 + 1))) = some r := by first | (rw [hy189]; with_reducible exact H) | (have H2_ := (Option.bind_some _ _).symm.trans H; rw [hy189]; with_reducible exact H2_) | (have H2_ := (Option.bind_some _ _).symm.trans H; with_reducible exact H2_) | with_reducible exact H | (rw [hy189]; exact H) | exact H
                        have Ny189 := Aside0.mk hy189
                        clear hy189
                        have H' := Aside0.mk H
                        clear H
                        have p188 : 0 ≤ (x9_2 : Int) := of_decide_eq_true (by first | (with_reducible assumption) | assumption)
                        have q188 : x9_2 < (x4_1.length : Int) := of_decide_eq_true (by first | (with_reducible assumption) | assumption)
                        obtain ⟨ad188, e188, hx188_0⟩ := Kd.at_int (Kd.R_reads' HO_4.out).2.2 x9_2 p188 q188
                        cases e188
                        replace p188 := eq_true p188
                        replace q188 := eq_true q188
                        have p26 : 0 ≤ ((ji23) : Int) := of_decide_eq_true (by first | (with_reducible assumption) | assumption)
                        have q26 : ((ji23) : Int) < ((x8_2.length : Int) : Int) := of_decide_eq_true (by first | (with_reducible assumption) | assumption)
                        obtain ⟨go26, co26, eo26, gb26, gl26, cl26, HG26⟩ := Kd.R_form HO_8.out (by omega)
                        (first | cases eo26 | (injection eo26 with ea_ en_ ec_; (first | subst ea_ | (injection ea_ with ea_; subst ea_)); subst ec_; clear en_))
                        have GB26 := Aside0.mk gb26
                        have GG26 := Aside0.mk HG26
                        clear gb26 gl26 HG26
                        obtain ⟨hx26_0, hf26_0⟩ := Kd.R_celln 0 HO_8.out ((ji23) : Int) p26 q26
                        replace p26 := eq_true p26
                        replace q26 := eq_true q26
                        have HP27 := Kd.R_putg HO_8.out ((ji23) : Int) (rd x4_1 x9_2)
                        go_wp2_with (first | ((with_reducible refine gate_store (t := 5) (p := 62) rfl ?_); refine store_event (t := 5) (p := 62) (v := ?vo_w28) (w1 := (wr.setCell ⟨go26, ((ji23) : Int).toNat, none⟩ (.int .u8 (rd x4_1 x9_2)))) ?hg ?ho ?hn ?hr ?_; (case ho => rfl); (case hg => rfl); (case hn => rfl); (case hr => first | (go_simp; done) | (go_simp; rfl)); intro w28 hw; have hg : wr.grownBy w28 (some go26) := (by rw [hw]; exact HP27.2); have hp_ : Kd.R (Kd.int .u8) 5 w28 w.heap.size (fun k_ => some k_ ≠ (.slice (some ad188) x4_1.length co18 : Value).ownBlock) (.slice (some ⟨go26, 0, none⟩) x8_2.length co26) y189 := (by rw [hw, Ny189.out]; exact HP27.1); clear HP27; have n0_ := Aside0.mk (Kd.R_after (v := (.slice (some ⟨go26, 0, none⟩) x8_2.length co26)) (v1 := (.slice (some ⟨go26, 0, none⟩) x8_2.length co26)) (ok := (fun _ => True)) (by (with_reducible repeat (first | apply Kd.R_alloc | apply Kd.R_drewN | apply Kd.R_drew)); exact Kd.R_mono HO_4.out (fun _ hk => ⟨trivial, hk⟩)) hg (.inl rfl)); have n1_ := Aside0.mk (hp_); have n2_ := Aside0.mk ((by rw [hw]; exact below_set (HB.out) GB26.out : Below w.heap.size w w28)); clear HO_4; clear HO_8; clear HB; have HO_4 := n0_; have HO_8 := n1_; have HB := n2_; clear n0_ n1_ n2_; clear hg hw hp_))
                        go_roundg k2
                        case measure => have := HK1.out; have := HK2.out; omega
                        case rel => exact ⟨(y189), (wrap64 (x9_2 + 1)), (by first | rfl | (simp; done) | (simp [*]; done)), H', ⟨by have := HK1.out; have := HK2.out; omega⟩, ⟨by (with_reducible repeat (first | apply Kd.R_alloc | apply Kd.R_drewN | apply Kd.R_drew)); exact Kd.R_mono HO_4.out (fun _ hk => hk.2)⟩, ⟨by (with_reducible repeat (first | apply Kd.R_alloc | apply Kd.R_drewN | apply Kd.R_drew)); exact HO_8.out⟩, ⟨by repeat (first | (with_reducible first | exact HB.out | apply below_alloc | apply pw_below_drewN | apply below_drew1) | exact HB.out)⟩⟩
                      · rw [if_neg c25] at H
                        exact absurd H (by simp)
                    · rw [if_neg c24] at H
                      exact absurd H (by simp)
                  · rw [if_neg c22] at H
                    exact absurd H (by simp)
                · rw [if_neg c21] at H
                  have c21b0 : decide (x9_2 < (x4_1.length : Int)) = false := decide_eq_false c21
                  clear c21
                  obtain rfl := Option.some.inj H
                  have hcv29 := own_string (P := Tryd.prog) Tryd.underlying34 Tryd.underlying5 Tryd.underlying9 (Kd.own_of_R HO_8.out)
                  go_wp2
                  go_ret
                  exact ⟨by first | rfl | (simp [errW_none, errW_some] <;> rfl) | (simp [*, errW_none, errW_some] <;> rfl), by repeat (first | (with_reducible first | exact HB.out | apply below_alloc | apply pw_below_drewN | apply below_drew1) | exact HB.out)⟩
          · rw [if_neg c16] at H
            exact absurd H (by simp)
        · rw [if_neg c15] at H
          exact absurd H (by simp)

end Go.Proofs.YtglhbbijoeeclaaDoor.Q
/- The document's Base32 writes the same letters (plain). -/
set_option linter.unusedVariables false
set_option linter.unusedSimpArgs false
namespace Go.Proofs.YtglhbbijoeeclaaDoor.B32
open Go.RowKit Go.Proofs.YtglhbbijoeeclaaDoor.Q Go.Proofs.YtglhbbijoeeclaaDoorW.PrintWords Go.Proofs.YtglhbbijoeeclaaDoorW.PrintLast Go.Proofs.YtglhbbijoeeclaaDoorW.PrintMore Go.Proofs.YtglhbbijoeeclaaDoor.Bytes Go.Proofs.YtglhbbijoeeclaaDoor.Evs
/-- The lowest bits of a number. -/
def bitsN (M n : Nat) : List Int := (List.range n).map fun i => ((M / 2 ^ i % 2 : Nat) : Int)
theorem bitsN_len (M n : Nat) : (bitsN M n).length = n := by simp [bitsN]
theorem bitsN_succ (M n : Nat) : bitsN M (n + 1) = bitsN M n ++ [((M / 2 ^ n % 2 : Nat) : Int)] := by
  unfold bitsN
  rw [List.range_succ, List.map_append]
  rfl
theorem numB_digit (l : List UInt8) : ∀ i (h : i < l.length), numB l / 256 ^ i % 256 = (l[i]).toNat := by
  induction l with
  | nil => intro i h; simp at h
  | cons c l ih =>
    intro i h
    have hc := c.toNat_lt
    match i with
    | 0 =>
      rw [numB, Nat.pow_zero, Nat.div_one]
      show _ = c.toNat
      omega
    | i + 1 =>
      have e : numB (c :: l) / 256 ^ (i + 1) = numB l / 256 ^ i := by
        have h256 : numB (c :: l) / 256 = numB l := by rw [numB]; omega
        rw [Nat.pow_succ, Nat.mul_comm (256 ^ i) 256, ← Nat.div_div_eq_div_mul, h256]
      rw [e]
      exact ih i (by simpa using h)
theorem bit_of (M i k : Nat) (hk : k < 8) : M / 2 ^ (8 * i + k) % 2 = M / 256 ^ i % 256 / 2 ^ k % 2 := by
  have e : M / 2 ^ (8 * i + k) = M / 256 ^ i / 2 ^ k := by
    rw [Nat.pow_add, ← Nat.div_div_eq_div_mul, show (256 : Nat) = 2 ^ 8 from rfl, ← Nat.pow_mul]
  rw [e]
  generalize M / 256 ^ i = D
  match k, hk with
  | 0, _ => omega
  | 1, _ => omega
  | 2, _ => omega
  | 3, _ => omega
  | 4, _ => omega
  | 5, _ => omega
  | 6, _ => omega
  | 7, _ => omega
theorem half (x k : Nat) (hx : x < 256) : wrap64 (Int.tdiv ((x / 2 ^ k : Nat) : Int) 2) = ((x / 2 ^ (k + 1) : Nat) : Int) := by
  have hq : x / 2 ^ k ≤ x := Nat.div_le_self _ _
  rw [Nat.pow_succ, ← Nat.div_div_eq_div_mul]
  generalize x / 2 ^ k = y at hq
  have : Int.tdiv (y : Int) 2 = ((y / 2 : Nat) : Int) := rfl
  rw [this, w64 (by omega) (by omega)]
theorem bits_l1 (s : ByteArray) (M i x : Nat) (R : List Int) (hx : x = M / 256 ^ i % 256) (hi : i < 1000000) (d : Nat) : ∀ k, k + d = 8 →
    Ev (fun f => depotref02_bits.l0 f s (bitsN M (8 * (i + 1))) ((i + 1 : Nat) : Int)) R →
    Ev (fun f => depotref02_bits.l1 f s (bitsN M (8 * i + k)) (i : Int) ((x / 2 ^ k : Nat) : Int) (k : Int)) R := by
  induction d with
  | zero =>
    intro k hk h
    obtain rfl : k = 8 := by omega
    refine succ ?_
    simp only [depotref02_bits.l1]
    refine neg (by omega) ?_
    rw [wr i (by omega)]
    exact h
  | succ d ih =>
    intro k hk h
    refine succ ?_
    simp only [depotref02_bits.l1]
    refine pos (by omega) (pos (by rw [bitsN_len]; omega) ?_)
    have e1 : Int.tmod ((x / 2 ^ k : Nat) : Int) 2 = ((M / 2 ^ (8 * i + k) % 2 : Nat) : Int) := by
      rw [bit_of M i k (by omega), ← hx]
      rfl
    have hx2 : x < 256 := by rw [hx]; exact Nat.mod_lt _ (by omega)
    have e2 := half x k hx2
    rw [e1, e2, wr k (by omega), ← bitsN_succ]
    exact ih (k + 1) (by omega) h
theorem bits_l0 (s : ByteArray) (hs : (bs s).length < 1000000) (d : Nat) : ∀ i, i + d = (bs s).length → Ev (fun f => depotref02_bits.l0 f s (bitsN (numB (bs s)) (8 * i)) (i : Int)) (bitsN (numB (bs s)) (8 * (bs s).length)) := by
  induction d with
  | zero =>
    intro i hi
    refine succ ?_
    simp only [depotref02_bits.l0]
    refine neg (by rw [size_bs]; omega) (now ?_)
    rw [show i = (bs s).length from by omega]
  | succ d ih =>
    intro i hi
    have hil : i < (bs s).length := by omega
    have hlt := (bs s)[i].toNat_lt
    refine succ ?_
    simp only [depotref02_bits.l0]
    refine pos (by rw [size_bs]; omega) (pos (by omega) ?_)
    rw [bt_lt s i hil, w64 (by omega) (by omega)]
    have := bits_l1 s (numB (bs s)) i ((bs s)[i]).toNat _ (numB_digit (bs s) i hil).symm (by omega) 8 0 (by omega) (ih (i + 1) (by omega))
    rw [Nat.pow_zero, Nat.div_one, Nat.add_zero] at this
    exact this
theorem bits_f (s : ByteArray) (hs : (bs s).length < 1000000) : Ev (fun f => depotref02_bits.f f s) (bitsN (numB (bs s)) (8 * (bs s).length)) := by
  unfold depotref02_bits.f
  exact bits_l0 s hs (bs s).length 0 (by omega)
theorem bitsN_get (M n i : Nat) (h : i < n) : rd (bitsN M n) (i : Int) = ((M / 2 ^ i % 2 : Nat) : Int) := by
  unfold rd bitsN
  rw [Int.toNat_natCast, List.getD_eq_getElem?_getD, List.getElem?_map, List.getElem?_range h]
  rfl
theorem mod_more (M a m : Nat) : M / 2 ^ a % 2 ^ (m + 1) = 2 * (M / 2 ^ (a + 1) % 2 ^ m) + M / 2 ^ a % 2 := by
  have e : M / 2 ^ (a + 1) = M / 2 ^ a / 2 := by rw [Nat.pow_succ, ← Nat.div_div_eq_div_mul]
  rw [e]
  generalize M / 2 ^ a = D
  rw [Nat.pow_succ, Nat.mul_comm (2 ^ m) 2, Nat.mod_mul]
  omega
/-- Letters so far, as numbers. -/
def lets (t N : Nat) : List Int := (d32 t N).map fun c => (c.toNat : Int)
theorem lets_len (t N : Nat) : (lets t N).length = t := by rw [lets, List.length_map, d32_len]
theorem b_l1 (M n t : Nat) (R : ByteArray) (hM : M < 2 ^ n) (hn : n < 10000000) (ht : 5 * t < n) (d : Nat) : d ≤ 5 →
    Ev (fun f => depotref02_Base32.l0 f (bitsN M n) (lets (t + 1) M) ((5 * (t + 1) : Nat) : Int)) R →
    Ev (fun f => depotref02_Base32.l1 f (bitsN M n) (lets t M) ((5 * t : Nat) : Int) ((M / 2 ^ (5 * t + d) % 2 ^ (5 - d) : Nat) : Int) ((d : Int) - 1)) R := by
  induction d with
  | zero =>
    intro _ h
    refine succ ?_
    simp only [depotref02_Base32.l1]
    refine neg (by omega) ?_
    have hlt : M / 2 ^ (5 * t + 0) % 2 ^ (5 - 0) < 32 := Nat.mod_lt _ (by decide)
    refine pos (by omega) (pos (by omega) (pos (by rw [lets_len]; omega) ?_))
    rw [bt_letter]
    have e1 : wrap64 (((5 * t : Nat) : Int) + 5) = ((5 * (t + 1) : Nat) : Int) := by rw [w64 (by omega) (by omega)]; omega
    have e2 : lets t M ++ [((lt32 (M / 2 ^ (5 * t + 0) % 2 ^ (5 - 0))).toNat : Int)] = lets (t + 1) M := by
      unfold lets
      rw [d32_succ, List.map_append]
      congr 3
      rw [show (32 : Nat) ^ t = 2 ^ (5 * t) from by rw [show (32 : Nat) = 2 ^ 5 from rfl, ← Nat.pow_mul]]
      rfl
    rw [e1, e2]
    exact h
  | succ d ih =>
    intro hd h
    have e0 : ((d + 1 : Nat) : Int) - 1 = (d : Int) := by omega
    have e1 : wrap64 (((5 * t : Nat) : Int) + (d : Int)) = ((5 * t + d : Nat) : Int) := by rw [w64 (by omega) (by omega)]; omega
    have e3 : wrap64 ((d : Int) - 1) = (d : Int) - 1 := w64 (by omega) (by omega)
    have z1 : 5 - (d + 1) + 1 = 5 - d := by omega
    have z2 : 5 * t + d + 1 = 5 * t + (d + 1) := by omega
    have z3 : 5 - (d + 1) ≤ 5 := by omega
    have h2 := ih (by omega) h
    have hlt2 : M / 2 ^ (5 * t + (d + 1)) % 2 ^ (5 - (d + 1)) < 32 := Nat.lt_of_lt_of_le (Nat.mod_lt _ (Nat.pow_pos (by decide))) (Nat.pow_le_pow_right (by decide) z3)
    have hmm := mod_more M (5 * t + d) (5 - (d + 1))
    rw [z1, z2] at hmm
    refine succ ?_
    simp only [depotref02_Base32.l1]
    rw [e0, e1, e3]
    refine pos (Int.natCast_nonneg _) ?_
    rw [hmm] at h2
    clear hmm
    generalize M / 2 ^ (5 * t + (d + 1)) % 2 ^ (5 - (d + 1)) = v at hlt2 h2 ⊢
    have e2 : wrap64 ((v : Int) * 2) = ((2 * v : Nat) : Int) := by rw [w64 (by omega) (by omega)]; omega
    rw [e2]
    by_cases hb : 5 * t + d < n
    · refine pos (by rw [bitsN_len]; omega) (pos (by omega) ?_)
      rw [bitsN_get _ _ _ hb]
      have hbit : M / 2 ^ (5 * t + d) % 2 < 2 := Nat.mod_lt _ (by omega)
      generalize M / 2 ^ (5 * t + d) % 2 = u at hbit h2 ⊢
      have e4 : wrap64 (((2 * v : Nat) : Int) + (u : Int)) = ((2 * v + u : Nat) : Int) := by rw [w64 (by omega) (by omega)]; omega
      rw [e4]
      exact h2
    · refine neg (by rw [bitsN_len]; omega) ?_
      have hz : M / 2 ^ (5 * t + d) = 0 := Nat.div_eq_of_lt (Nat.lt_of_lt_of_le hM (Nat.pow_le_pow_right (by omega) (by omega)))
      rw [hz] at h2
      exact h2
/-- The row turned so far. -/
theorem b_l2 (L : List UInt8) (hL : L.length < 10000000) (d : Nat) : ∀ i, i + d = L.length →
    Ev (fun f => depotref02_Base32.l2 f (L.map fun c => (c.toNat : Int)) (List.replicate d 0 ++ (L.take i).reverse.map fun c => (c.toNat : Int)) (i : Int)) ⟨L.reverse.toArray⟩ := by
  induction d with
  | zero =>
    intro i hi
    refine succ ?_
    simp only [depotref02_Base32.l2]
    refine neg (by rw [List.length_map]; omega) (now (congrArg some ?_))
    rw [List.replicate_zero, List.nil_append, List.take_of_length_le (by omega)]
    exact nums_row _
  | succ d ih =>
    intro i hi
    have hil : i < L.length := by omega
    refine succ ?_
    simp only [depotref02_Base32.l2]
    have e1 : wrap64 (((L.map fun c => (c.toNat : Int)).length : Int) - 1) = ((L.length - 1 : Nat) : Int) := by rw [List.length_map, w64 (by omega) (by omega)]; omega
    have e2 : wrap64 (((L.length - 1 : Nat) : Int) - (i : Int)) = (d : Int) := by rw [w64 (by omega) (by omega)]; omega
    rw [e1, e2, wr i (by omega)]
    refine pos (by rw [List.length_map]; omega) (pos (by omega) (pos (by omega) (pos (by rw [List.length_append, List.length_replicate]; omega) ?_)))
    have hr : rd (L.map fun c => (c.toNat : Int)) (i : Int) = ((L[i]).toNat : Int) := by
      unfold rd
      rw [Int.toNat_natCast, List.getD_eq_getElem?_getD, List.getElem?_map, List.getElem?_eq_getElem hil]
      rfl
    rw [hr, Int.toNat_natCast]
    have es : (List.replicate (d + 1) (0 : Int) ++ (L.take i).reverse.map fun c => (c.toNat : Int)).set d ((L[i]).toNat : Int) = List.replicate d 0 ++ (L.take (i + 1)).reverse.map fun c => (c.toNat : Int) := by
      rw [List.take_succ_eq_append_getElem hil, List.reverse_append, List.reverse_singleton, List.singleton_append, List.map_cons, List.replicate_succ', List.append_assoc, List.set_append_right _ _ (by rw [List.length_replicate]; exact Nat.le_refl _)]
      simp
    rw [es]
    exact ih (i + 1) (by omega)
theorem b_l0 (M n m : Nat) (hM : M < 2 ^ n) (hn : n < 10000000) (hm : m = (n + 4) / 5) (d : Nat) : ∀ t, t + d = m →
    Ev (fun f => depotref02_Base32.l0 f (bitsN M n) (lets t M) ((5 * t : Nat) : Int)) ⟨(d32 m M).reverse.toArray⟩ := by
  induction d with
  | zero =>
    intro t ht
    obtain rfl : t = m := by omega
    refine succ ?_
    simp only [depotref02_Base32.l0]
    refine neg (by rw [bitsN_len]; omega) (pos (by omega) (pos (by rw [lets_len]; omega) ?_))
    have := b_l2 (d32 t M) (by rw [d32_len]; omega) t 0 (by rw [d32_len]; omega)
    rw [List.take_zero, List.reverse_nil, List.map_nil, List.append_nil] at this
    rw [lets_len, Int.toNat_natCast]
    exact this
  | succ d ih =>
    intro t ht
    refine succ ?_
    simp only [depotref02_Base32.l0]
    refine pos (by rw [bitsN_len]; omega) ?_
    have := b_l1 M n t _ hM hn (by omega) 5 (Nat.le_refl _) (ih (t + 1) (by omega))
    rw [Nat.sub_self, Nat.pow_zero, Nat.mod_one] at this
    exact this
/-- The document's Base32, any bytes. -/
theorem ref_enc (s : ByteArray) (hs : (bs s).length < 1000000) : Ev (fun f => depotref02_Base32.f f s) ⟨(enc (bs s)).toArray⟩ := by
  unfold depotref02_Base32.f
  refine Ev.bind (bits_f s hs) ?_
  have hM : numB (bs s) < 2 ^ (8 * (bs s).length) := by
    have := numB_lt (bs s)
    rw [show (256 : Nat) = 2 ^ 8 from rfl, ← Nat.pow_mul] at this
    exact this
  exact b_l0 (numB (bs s)) (8 * (bs s).length) _ hM (by omega) rfl _ 0 (Nat.zero_add _)
end Go.Proofs.YtglhbbijoeeclaaDoor.B32
/- By a program of this session's: a plain Lean function for a Go function, and its contract. -/
namespace Go.Proofs.YtglhbbijoeeclaaDoor.Q
open Go.RowKit Go.Proofs.YtglhbbijoeeclaaDoorW.PrintWords Go.Proofs.YtglhbbijoeeclaaDoorW.PrintLast Go.Proofs.YtglhbbijoeeclaaDoorW.PrintMore
attribute [local go_sem] max2_int min2_int max_two min_two max_three min_three max_four min_four Go.Proofs.YtglhbbijoeeclaaDoor.Ord.str_leq Go.Proofs.YtglhbbijoeeclaaDoor.Ord.str_gtr Go.Proofs.YtglhbbijoeeclaaDoor.Ord.str_geq   -- for this text's walks alone
set_option linter.unusedVariables false
set_option linter.unusedSimpArgs false

/-! ### depotref13_Good: function 37 -/
def depotref13_Good.f (k : Nat) (a0 : ByteArray) : Option (Bool) := (depotref13_Parse.f k a0).bind fun bt153 => (some (bt153.2.2 == 0))
theorem depotref13_Good.mono : ∀ a0 k, LeO (depotref13_Good.f k a0) (depotref13_Good.f (k + 1) a0) := by
  intro a0 k
  unfold depotref13_Good.f
  repeat' first
      | (with_reducible exact depotref13_Parse.mono _ _)
      | (with_reducible exact LeO.refl _)
      | (with_reducible exact LeO.none _)
      | (with_reducible refine LeO.ite ?_ ?_)
      | (with_reducible refine LeO.bind ?_ (fun _ => ?_))
      | exact depotref13_Parse.mono _ _
      | exact LeO.none _
      | refine LeO.ite ?_ ?_
      | refine LeO.bind ?_ (fun _ => ?_)
set_option maxHeartbeats 8000000 in
set_option maxRecDepth 100000 in
theorem depotref13_Good.calls (k : Nat) (a0 : ByteArray) (r : Bool) (w : World) (h : depotref13_Good.f k a0 = some r) :
    Calls Tryd.prog 37 #[.string a0] w fun e w' => e = .returned (.bool r) ∧ Drawn0 w w' := by
  have H : ((depotref13_Parse.f k a0).bind fun bt153 => (some (bt153.2.2 == 0))) = some r := h
  clear h
  replace H := Option.bind_eq_some_iff.mp H
  obtain ⟨⟨t153, t154, t155⟩, A20, H⟩ := H
  replace H : (some (t155 == 0)) = some r := H
  have A2 := Aside0.mk A20
  clear A20
  obtain rfl := Option.some.inj H
  go_enter Tryd.func37, Tryd.ntmps37
  go_wp2_with (first | ((with_reducible refine gate_callee (f := 51) rfl ?_); refine goesL_ (some 8) rfl rfl Tryd.func51 (by kernel_rfl) rfl #[.string a0] rfl (by (try simp only [List.map_toArray, List.map_cons, List.map_nil]); first | done | rfl | (simp only [List.length_drop, List.length_take]; rfl)) ?_; (with_reducible refine (depotref13_Parse.calls k a0 t153 t154 t155 _ A2.out).mono ?_); rintro e w' ⟨rfl, ⟨nd, rfl⟩⟩; refine ⟨_, rfl, ?_⟩))
  go_ret
  exact ⟨by first | rfl | (simp; done) | (simp [*]; done), by repeat (first | exact Drawn0.refl _ | apply Drawn0.step)⟩

end Go.Proofs.YtglhbbijoeeclaaDoor.Q
