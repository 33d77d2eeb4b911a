/- Texts of this claim, put together: B32Enc, MakeAll, Q62, Q63, SpathMore, ExtSpBack, DoorSha, Opens, Arr. -/
import Derived.Test.YtglhbbijoeeclaaDoorCSpathBack1
import Derived.Test.YtglhbbijoeeclaaDoorB32
import Derived.Test.YtglhbbijoeeclaaDoorQ0
import Derived.Test.YtglhbbijoeeclaaDoorQ14
import Derived.Test.YtglhbbijoeeclaaDoorSpathParse
import Derived.Test.YtglhbbijoeeclaaDoorRows
import Derived.ProofKit
import Derived.LaidMore
import Derived.LaidLaws
import Derived.LaidHandle
import Derived.OpenShut
import Derived.Test.YtglhbbijoeeclaaDoorWWords
import Derived.Test.YtglhbbijoeeclaaDoorWLast
import Derived.Deep.Slices
import Derived.SizedLaws
import Derived.WideShapes
/- Base 32: what radix.Base32 writes of any bytes, in numbers. -/
set_option linter.unusedVariables false
set_option linter.unusedSimpArgs false
namespace Go.Proofs.YtglhbbijoeeclaaDoor.B32
open Go.RowKit Go.Proofs.YtglhbbijoeeclaaDoor.Q Go.Proofs.YtglhbbijoeeclaaDoorW.PrintWords Go.Proofs.YtglhbbijoeeclaaDoorW.PrintLast Go.Proofs.YtglhbbijoeeclaaDoorW.PrintMore Go.Proofs.YtglhbbijoeeclaaDoor.Bytes Go.Proofs.YtglhbbijoeeclaaDoor.Evs

/-- The number of bytes, the first one the lowest. -/
def numB : List UInt8 → Nat
  | [] => 0
  | c :: t => c.toNat + 256 * numB t
theorem numB_append (a b : List UInt8) : numB (a ++ b) = numB a + 256 ^ a.length * numB b := by
  induction a with
  | nil => simp [numB]
  | cons c a ih =>
    rw [List.cons_append, numB, numB, ih, List.length_cons, Nat.pow_succ, Nat.mul_add, ← Nat.mul_assoc, Nat.mul_comm 256 (256 ^ a.length)]
    omega
theorem numB_lt (l : List UInt8) : numB l < 256 ^ l.length := by
  induction l with
  | nil => simp [numB]
  | cons c l ih =>
    have := c.toNat_lt
    rw [numB, List.length_cons, Nat.pow_succ]
    omega
/-- Letter number v. -/
def lt32 (v : Nat) : UInt8 := letters.getD v 0
/-- The letters of a number, the lowest first. -/
def d32 (t N : Nat) : List UInt8 := (List.range t).map fun j => lt32 (N / 32 ^ j % 32)
theorem d32_len (t N : Nat) : (d32 t N).length = t := by simp [d32]
theorem d32_succ (t N : Nat) : d32 (t + 1) N = d32 t N ++ [lt32 (N / 32 ^ t % 32)] := by
  unfold d32
  rw [List.range_succ, List.map_append]
  rfl
/-- What bytes are as letters. -/
def enc (l : List UInt8) : List UInt8 := (d32 ((8 * l.length + 4) / 5) (numB l)).reverse
theorem pow_parts (i t : Nat) (h : 5 * t ≤ 8 * i) : (256 : Nat) ^ i = 32 ^ t * 2 ^ (8 * i - 5 * t) := by
  have e1 : (32 : Nat) ^ t = 2 ^ (5 * t) := by rw [show (32 : Nat) = 2 ^ 5 from rfl, ← Nat.pow_mul]
  have e2 : (256 : Nat) ^ i = 2 ^ (8 * i) := by rw [show (256 : Nat) = 2 ^ 8 from rfl, ← Nat.pow_mul]
  rw [e1, e2, ← Nat.pow_add]
  congr 1
  omega
theorem d32_more (t M i b : Nat) (h : 5 * t ≤ 8 * i) : d32 t (M + 256 ^ i * b) = d32 t M := by
  unfold d32
  apply List.map_congr_left
  intro j hj
  rw [List.mem_range] at hj
  have e : 256 ^ i * b = 32 ^ j * (32 * (2 ^ (8 * i - 5 * (j + 1)) * b)) := by
    rw [pow_parts i (j + 1) (by omega), Nat.pow_succ]
    simp only [Nat.mul_assoc]
  rw [e, Nat.add_mul_div_left _ _ (Nat.pow_pos (by omega)), Nat.add_mul_mod_self_left]
theorem acc32_more (t M i b : Nat) (h : 5 * t ≤ 8 * i) : (M + 256 ^ i * b) / 32 ^ t = M / 32 ^ t + 2 ^ (8 * i - 5 * t) * b := by
  rw [pow_parts i t h, Nat.mul_assoc, Nat.add_mul_div_left _ _ (Nat.pow_pos (by omega))]
theorem acc32_lt (t M i : Nat) (h : 5 * t ≤ 8 * i) (hM : M < 256 ^ i) : M / 32 ^ t < 2 ^ (8 * i - 5 * t) := by
  rw [Nat.div_lt_iff_lt_mul (Nat.pow_pos (by omega)), Nat.mul_comm, ← pow_parts i t h]
  exact hM
/-- '|' of a byte beyond the bits held is '+'. -/
theorem or_byte (a v h : Nat) (hh : h ≤ 7) (ha : a < 2 ^ h) (hv : v < 256) : Go.bits .or .u64 (a : Int) (shl .u64 (IntKind.u64.wrap (v : Int)) (h : Int)) = ((a + 2 ^ h * v : Nat) : Int) := by
  have hp : 2 ^ h ≤ 2 ^ 7 := Nat.pow_le_pow_right (by omega) hh
  have hv2 : 2 ^ h * v ≤ 2 ^ 7 * 255 := Nat.mul_le_mul hp (by omega)
  have e1 : IntKind.u64.wrap (v : Int) = (v : Int) := by
    simp only [IntKind.wrap, IntKind.bits, IntKind.signed]
    simp
    omega
  have e2 : shl .u64 (v : Int) (h : Int) = ((2 ^ h * v : Nat) : Int) := by
    unfold shl
    have e3 : min ((h : Int)).toNat (IntKind.bits .u64) = h := by
      rw [Int.toNat_natCast]
      exact Nat.min_eq_left (by show h ≤ 64; omega)
    rw [e3]
    have e4 : (v : Int) * 2 ^ h = ((2 ^ h * v : Nat) : Int) := by
      rw [Int.natCast_mul, Int.mul_comm]
      simp
    rw [e4]
    generalize 2 ^ h * v = q at hv2
    simp only [IntKind.wrap, IntKind.bits, IntKind.signed]
    simp
    omega
  rw [e1, e2, u64_or_nat _ _ (by omega) (by omega)]
  congr 1
  rw [Nat.or_comm, ← Nat.two_pow_add_eq_or_of_lt ha, Nat.add_comm]
theorem and_31 (x : Nat) (hx : x < 18446744073709551616) : Go.bits .and .u64 (x : Int) 31 = ((x % 32 : Nat) : Int) := by
  rw [show (31 : Int) = ((31 : Nat) : Int) from rfl, u64_and_nat _ _ hx (by omega)]
  congr 1
  exact Nat.and_two_pow_sub_one_eq_mod x 5
/-- The row so far: room, then the letters. -/
def row32 (m t N : Nat) : List Int := List.replicate (m - t) 0 ++ (d32 t N).reverse.map fun c => (c.toNat : Int)
theorem row32_len (m t N : Nat) (h : t ≤ m) : (row32 m t N).length = m := by
  unfold row32
  rw [List.length_append, List.length_replicate, List.length_map, List.length_reverse, d32_len]
  omega
theorem row32_set (m t N : Nat) (h : t < m) : (row32 m t N).set (m - t - 1) ((lt32 (N / 32 ^ t % 32)).toNat : Int) = row32 m (t + 1) N := by
  unfold row32
  rw [d32_succ, List.reverse_append, List.reverse_singleton, List.singleton_append, List.map_cons]
  obtain ⟨q, hq⟩ : ∃ q, m - t = q + 1 := ⟨m - t - 1, by omega⟩
  rw [show m - t - 1 = q from by omega, show m - (t + 1) = q from by omega, hq, List.replicate_succ', List.append_assoc, List.set_append_right _ _ (by rw [List.length_replicate]; exact Nat.le_refl _)]
  simp
theorem bt_letter (v : Nat) : bt (⟨#[48, 49, 50, 51, 52, 53, 54, 55, 56, 57, 97, 98, 99, 100, 102, 103, 104, 105, 106, 107, 108, 109, 110, 112, 113, 114, 115, 118, 119, 120, 121, 122]⟩ : ByteArray) (v : Int) = ((lt32 v).toNat : Int) := by
  rw [bt_bs, Int.toNat_natCast]
  rfl
theorem nums_row (l : List UInt8) : strOfNums (l.map fun c => (c.toNat : Int)) = ⟨l.toArray⟩ := by
  unfold strOfNums
  rw [List.map_map]
  congr 1
  congr 1
  conv => rhs; rw [← List.map_id l]
  exact List.map_congr_left fun c _ => by simp
theorem inner (s : ByteArray) (n m N i : Nat) (R : ByteArray) (hN : N < 256 ^ (i + 1)) (hi : i < n) (hm : m = (8 * n + 4) / 5) (hn : n < 140737488351232) (q : Nat) : ∀ t r, 8 * (i + 1) = 5 * t + 5 * q + r → r < 5 → 8 * (i + 1) - 5 * t ≤ 12 →
    Ev (fun k => radix_Base32.l0 k s (row32 m (t + q) N) ((N / 32 ^ (t + q) : Nat) : Int) (r : Int) ((m - (t + q) : Nat) : Int) (n : Int) ((i + 1 : Nat) : Int)) R →
    Ev (fun k => radix_Base32.l1 k s (row32 m t N) ((N / 32 ^ t : Nat) : Int) ((8 * (i + 1) - 5 * t : Nat) : Int) ((m - t : Nat) : Int) (n : Int) (i : Int)) R := by
  induction q with
  | zero =>
    intro t r h hr h12 hk
    refine succ ?_
    simp only [radix_Base32.l1]
    refine neg (by omega) ?_
    rw [wr i (by omega), show 8 * (i + 1) - 5 * t = r from by omega]
    exact hk
  | succ q ih =>
    intro t r h hr h12 hk
    have hacc := acc32_lt t N (i + 1) (by omega) hN
    have hp : 2 ^ (8 * (i + 1) - 5 * t) ≤ 2 ^ 12 := Nat.pow_le_pow_right (by omega) h12
    have ea := and_31 (N / 32 ^ t) (by omega)
    refine succ ?_
    simp only [radix_Base32.l1]
    rw [ea]
    have ew : wrap64 (((m - t : Nat) : Int) - 1) = ((m - t - 1 : Nat) : Int) := by rw [w64 (by omega) (by omega)]; omega
    rw [ew]
    have hmod : N / 32 ^ t % 32 < 32 := Nat.mod_lt _ (by omega)
    refine pos (by omega) (pos (by omega) (pos (by omega) (pos (by omega) (pos (by rw [row32_len _ _ _ (by omega)]; omega) ?_))))
    rw [bt_letter, Int.toNat_natCast, row32_set m t N (by omega)]
    have ed : ((N / 32 ^ t : Nat) : Int) / 32 = ((N / 32 ^ (t + 1) : Nat) : Int) := by
      rw [Nat.pow_succ, ← Nat.div_div_eq_div_mul]
      omega
    have e5 : IntKind.u64.wrap (((8 * (i + 1) - 5 * t : Nat) : Int) - 5) = ((8 * (i + 1) - 5 * (t + 1) : Nat) : Int) := by
      rw [IntKind.wrap_u64]
      omega
    rw [ed, e5, show m - t - 1 = m - (t + 1) from by omega]
    refine ih (t + 1) r (by omega) hr (by omega) ?_
    rw [show t + 1 + q = t + (q + 1) from by omega]
    exact hk
theorem outer (s : ByteArray) (hs : (bs s).length < 140737488351232) (d : Nat) : ∀ i, i + d = (bs s).length →
    Ev (fun k => radix_Base32.l0 k s (row32 ((8 * (bs s).length + 4) / 5) (8 * i / 5) (numB ((bs s).take i))) ((numB ((bs s).take i) / 32 ^ (8 * i / 5) : Nat) : Int) ((8 * i - 5 * (8 * i / 5) : Nat) : Int) (((8 * (bs s).length + 4) / 5 - 8 * i / 5 : Nat) : Int) ((bs s).length : Int) (i : Int)) ⟨(enc (bs s)).toArray⟩ := by
  obtain ⟨n, hn⟩ : ∃ n, (bs s).length = n := ⟨_, rfl⟩
  obtain ⟨m, hm⟩ : ∃ m, (8 * n + 4) / 5 = m := ⟨_, rfl⟩
  have henc : enc (bs s) = (d32 m (numB (bs s))).reverse := by unfold enc; rw [hn, hm]
  rw [hn, hm]
  rw [hn] at hs
  induction d with
  | zero =>
    intro i hi
    obtain rfl : i = n := by omega
    rw [List.take_of_length_le (by omega), henc]
    generalize hN : numB (bs s) = N
    have hlt : N < 256 ^ i := by rw [← hN, ← hn]; exact numB_lt _
    refine succ ?_
    simp only [radix_Base32.l0]
    refine neg (by omega) ?_
    by_cases hh : 0 < 8 * i - 5 * (8 * i / 5)
    · refine pos (by omega) ?_
      have hacc := acc32_lt (8 * i / 5) N i (by omega) hlt
      have hp : 2 ^ (8 * i - 5 * (8 * i / 5)) ≤ 2 ^ 12 := Nat.pow_le_pow_right (by omega) (by omega)
      have ea := and_31 (N / 32 ^ (8 * i / 5)) (by omega)
      rw [ea]
      have ew : wrap64 (((m - 8 * i / 5 : Nat) : Int) - 1) = ((m - 8 * i / 5 - 1 : Nat) : Int) := by rw [w64 (by omega) (by omega)]; omega
      rw [ew]
      have hmod : N / 32 ^ (8 * i / 5) % 32 < 32 := Nat.mod_lt _ (by omega)
      refine pos (by omega) (pos (by omega) (pos (by omega) (pos (by rw [row32_len _ _ _ (by omega)]; omega) ?_)))
      rw [bt_letter, Int.toNat_natCast, row32_set m _ N (by omega)]
      refine now (congrArg some ?_)
      unfold row32
      rw [show 8 * i / 5 + 1 = m from by omega, Nat.sub_self, List.replicate_zero, List.nil_append]
      exact nums_row _
    · refine neg (by omega) ?_
      refine now (congrArg some ?_)
      unfold row32
      rw [show 8 * i / 5 = m from by omega, Nat.sub_self, List.replicate_zero, List.nil_append]
      exact nums_row _
  | succ d ih =>
    intro i hi
    have hil : i < (bs s).length := by omega
    have htake : (bs s).take (i + 1) = (bs s).take i ++ [(bs s)[i]] := List.take_succ_eq_append_getElem hil
    obtain ⟨M, hM⟩ : ∃ M, numB ((bs s).take i) = M := ⟨_, rfl⟩
    have hMlt : M < 256 ^ i := by
      have := numB_lt ((bs s).take i)
      rw [List.length_take, Nat.min_eq_left (by omega), hM] at this
      exact this
    obtain ⟨b, hb⟩ : ∃ b, ((bs s)[i]).toNat = b := ⟨_, rfl⟩
    have hb2 : b < 256 := by rw [← hb]; exact (bs s)[i].toNat_lt
    have hM' : numB ((bs s).take (i + 1)) = M + 256 ^ i * b := by
      rw [htake, numB_append, hM, List.length_take, Nat.min_eq_left (by omega)]
      simp [numB, hb]
    have hnext := ih (i + 1) (by omega)
    rw [hM'] at hnext
    rw [hM]
    obtain ⟨t, ht⟩ : ∃ t, 8 * i / 5 = t := ⟨_, rfl⟩
    rw [ht]
    have hacc := acc32_lt t M i (by omega) hMlt
    have hor := or_byte (M / 32 ^ t) b (8 * i - 5 * t) (by omega) hacc hb2
    rw [← acc32_more t M i b (by omega)] at hor
    have hrow : row32 m t M = row32 m t (M + 256 ^ i * b) := by unfold row32; rw [d32_more t M i b (by omega)]
    refine succ ?_
    simp only [radix_Base32.l0]
    refine pos (by omega) (pos (by omega) (pos (by rw [size_bs]; omega) (pos (by omega) ?_)))
    rw [bt_lt s i hil, hb, hor, hrow]
    have e8 : IntKind.u64.wrap (((8 * i - 5 * t : Nat) : Int) + 8) = ((8 * (i + 1) - 5 * t : Nat) : Int) := by
      rw [IntKind.wrap_u64]
      omega
    rw [e8]
    have hNlt : M + 256 ^ i * b < 256 ^ (i + 1) := by
      have := numB_lt ((bs s).take (i + 1))
      rw [List.length_take, Nat.min_eq_left (by omega), hM'] at this
      exact this
    refine inner s n m (M + 256 ^ i * b) i _ hNlt (by omega) hm.symm hs (8 * (i + 1) / 5 - t) t (8 * (i + 1) - 5 * (8 * (i + 1) / 5)) (by omega) (by omega) (by omega) ?_
    rw [show t + (8 * (i + 1) / 5 - t) = 8 * (i + 1) / 5 from by omega]
    exact hnext
/-- radix.Base32, any bytes. -/
theorem prog_enc (s : ByteArray) (hs : (bs s).length < 140737488351232) : Ev (fun k => radix_Base32.f k s) ⟨(enc (bs s)).toArray⟩ := by
  unfold radix_Base32.f
  have e : wrap64 (Int.tdiv (wrap64 (wrap64 (8 * (s.size : Int)) + 4)) 5) = (((8 * (bs s).length + 4) / 5 : Nat) : Int) := by
    rw [size_bs, w64 (x := 8 * _) (by omega) (by omega), w64 (x := _ + 4) (by omega) (by omega), Int.tdiv_eq_ediv_of_nonneg (by omega), w64 (by omega) (by omega)]
    omega
  rw [e, Int.toNat_natCast]
  refine pos (by omega) (pos (by omega) ?_)
  have h := outer s hs (bs s).length 0 (by omega)
  have e0 : row32 ((8 * (bs s).length + 4) / 5) 0 0 = List.replicate ((8 * (bs s).length + 4) / 5) 0 := by simp [row32, d32]
  rw [show 8 * 0 / 5 = 0 from rfl, List.take_zero, show numB [] = 0 from rfl, e0, show 0 / 32 ^ 0 = 0 from rfl, show 8 * 0 - 5 * 0 = 0 from rfl, Nat.sub_zero] at h
  rw [size_bs]
  exact h
theorem enc_len (l : List UInt8) : (enc l).length = (8 * l.length + 4) / 5 := by rw [enc, List.length_reverse, d32_len]
theorem lt32_val : ∀ v, v < 32 → 0 ≤ val (lt32 v) := by decide +kernel
theorem enc_val (l : List UInt8) : ∀ c ∈ enc l, 0 ≤ val c := by
  intro c hc
  rw [enc, List.mem_reverse, d32, List.mem_map] at hc
  obtain ⟨j, _, rfl⟩ := hc
  exact lt32_val _ (Nat.mod_lt _ (by omega))
end Go.Proofs.YtglhbbijoeeclaaDoor.B32
/- spath.Make at any arguments: its answer hangs on them alone. -/
namespace Go.Proofs.YtglhbbijoeeclaaDoor.TextTrue
open Go.RowKit Go.Proofs.YtglhbbijoeeclaaDoor.Q Go.Proofs.YtglhbbijoeeclaaDoor.Bytes Go.Proofs.YtglhbbijoeeclaaDoor.Sha Go.Proofs.YtglhbbijoeeclaaDoor.Refs Go.Proofs.YtglhbbijoeeclaaDoor.SpathPure Go.Proofs.YtglhbbijoeeclaaDoor.TextPure Go.Proofs.YtglhbbijoeeclaaDoorW.PrintWords Go.Proofs.YtglhbbijoeeclaaDoorW.PrintLast Go.Proofs.YtglhbbijoeeclaaDoorW.PrintMore
set_option linter.unusedVariables false
set_option linter.unusedSimpArgs false
/-- Make's contract with its answer. -/
def MakeGives (refs : List ByteArray) (d : List UInt8) (label p : ByteArray) (e1 : Int) : Prop :=
  ∀ W, Glob W → ∀ (A : Option Addr) (c : Nat), Kd.C Kd.string W A refs.length refs → refs.length ≤ c →
    Calls Tryd.prog 8 #[.slice A refs.length c, .agg (d.map bcell).toArray, .string label] W fun e w' => e = .returned (.tuple #[.string p, .int .i64 e1]) ∧ Below W.heap.size W w'
/-- What Make answers where it makes a path: the text's digest, folded, in letters. -/
def MadeAs (refs : List ByteArray) (d : List UInt8) (label p : ByteArray) : Prop :=
  ∃ hxs b32 : ByteArray, (∃ kh, radix_Hex.f kh ⟨d.toArray⟩ = some hxs) ∧ hxs.size ≤ 64 ∧ b32 = ⟨(B32.enc (fold (of (bs (textTo refs refs.length ++ shaC ++ hxs ++ dirC ++ label))) 20)).toArray⟩ ∧ b32.size = 32 ∧ p = dirS ++ b32 ++ dashS ++ label
set_option maxHeartbeats 1000000 in
theorem make_all (refs : List ByteArray) (d : List UInt8) (hd : d.length = 32) (label : ByteArray) (hsz : ∀ x ∈ refs, x.size ≤ 140737488351232) :
    ∃ p e1, MakeGives refs d label p e1 ∧ ((e1 ≠ 0 ∧ p = ⟨#[]⟩ ∧ (labelNo (bs label) = e1 ∨ labelNo (bs label) = 0 ∧ refsNo refs = e1)) ∨ (e1 = 0 ∧ labelNo (bs label) = 0 ∧ refsNo refs = 0 ∧ MadeAs refs d label p)) := by
  have h1 : spath_CheckLabel.f label = some (labelNo (bs label)) := rfl
  by_cases e1 : labelNo (bs label) = 0
  · rw [e1] at h1
    obtain ⟨kr, hkr⟩ := prog_refs refs hsz
    have h2 := hkr kr (Nat.le_refl _)
    by_cases e2 : refsNo refs = 0
    · rw [e2] at h2
      obtain ⟨hlen, hsm⟩ := refs_small refs e2
      have hll := label_len e1
      rw [← size_bs] at hll
      have hds : (⟨d.toArray⟩ : ByteArray).size = 32 := by show d.length = 32; exact hd
      obtain ⟨hxs, hxl, h3⟩ := HexPure.hex_some ⟨d.toArray⟩ (by rw [hds]; decide)
      rw [hds] at hxl
      have hts := text_size refs hsm
      have hj := text_join refs hxs label
      have hn := hts refs.length
      have hsize : (textTo refs refs.length ++ shaC ++ hxs ++ dirC ++ label).size ≤ 1000000 := by
        rw [size_bs, bs_append, bs_append, bs_append, bs_append, List.length_append, List.length_append, List.length_append, List.length_append, ← size_bs, ← size_bs, ← size_bs, ← size_bs, ← size_bs]
        have q1 : shaC.size = 8 := rfl
        have q2 : dirC.size = 15 := rfl
        omega
      have h4 : strings_Join.f ([treeS] ++ refs ++ [shaS, hxs, dirS, label]) colonS = some (textTo refs refs.length ++ shaC ++ hxs ++ dirC ++ label) := by
        unfold strings_Join.f
        rw [← hj, if_pos ⟨by simp; omega, by rw [← size_bs]; omega⟩]
        exact congrArg some (bs_inj (bs_mk _))
      have hto : ∃ txt, textTo refs refs.length ++ shaC ++ hxs ++ dirC ++ label = txt := ⟨_, rfl⟩
      obtain ⟨txt, hgt⟩ := hto
      obtain ⟨kb, hkb⟩ := B32.prog_enc ⟨(fold (of txt.data.toList) 20).toArray⟩ (by rw [bs_mk, fold, List.length_take, foldTo_len]; decide)
      have h5 := hkb kb (Nat.le_refl _)
      rw [bs_mk] at h5
      have hbl : (⟨(B32.enc (fold (of txt.data.toList) 20)).toArray⟩ : ByteArray).size = 32 := by
        rw [size_bs, bs_mk, B32.enc_len, fold, List.length_take, foldTo_len]
        decide
      rw [hgt] at h4 hsize
      refine ⟨dirS ++ ⟨(B32.enc (fold (of txt.data.toList) 20)).toArray⟩ ++ dashS ++ label, 0, ?_, .inr ⟨rfl, e1, e2, hxs, _, ⟨_, h3⟩, by omega, by rw [hgt]; rfl, hbl, rfl⟩⟩
      intro W hG A c hr hc
      exact make_good pad_calls W hG A c refs d hd label hxs txt _ kr _ kb hr hc hlen h1 h2 h3 h4 (by omega) h5 (by omega) (by omega)
    · exact ⟨⟨#[]⟩, refsNo refs, fun W _ A c hr hc => make_refs W A c refs d label _ kr hr hc h1 h2 e2, .inl ⟨e2, rfl, .inr ⟨e1, rfl⟩⟩⟩
  · exact ⟨⟨#[]⟩, labelNo (bs label), fun W _ A c hr hc => make_label W A _ c d label _ h1 e1, .inl ⟨e1, rfl, .inl rfl⟩⟩
end Go.Proofs.YtglhbbijoeeclaaDoor.TextTrue
/- By a program of this session's: a plain Lean function for a Go function, and its contract. -/
namespace Go.Proofs.YtglhbbijoeeclaaDoor.Q
open Go.RowKit Go.Proofs.YtglhbbijoeeclaaDoorW.PrintWords Go.Proofs.YtglhbbijoeeclaaDoorW.PrintLast Go.Proofs.YtglhbbijoeeclaaDoorW.PrintMore
attribute [local go_sem] max2_int min2_int max_two min_two max_three min_three max_four min_four Go.Proofs.YtglhbbijoeeclaaDoor.Ord.str_leq Go.Proofs.YtglhbbijoeeclaaDoor.Ord.str_gtr Go.Proofs.YtglhbbijoeeclaaDoor.Ord.str_geq   -- for this text's walks alone
set_option linter.unusedVariables false
set_option linter.unusedSimpArgs false

/-! ### spath_Base: function 17 -/
def spath_Base.f (k : Nat) (a0 : ByteArray) : Option (ByteArray × Int) := (spath_Parse.f k a0).bind fun bt190 => (if bt190.2.2 = 0 then (if 13 ≤ (a0.size : Int) then (some (a0.extract 13 a0.size, 0)) else (none)) else (some ((⟨#[]⟩ : ByteArray), bt190.2.2)))
theorem spath_Base.mono : ∀ a0 k, LeO (spath_Base.f k a0) (spath_Base.f (k + 1) a0) := by
  intro a0 k
  unfold spath_Base.f
  repeat' first
      | (with_reducible exact spath_Parse.mono _ _)
      | (with_reducible exact LeO.refl _)
      | (with_reducible exact LeO.none _)
      | (with_reducible refine LeO.ite ?_ ?_)
      | (with_reducible refine LeO.bind ?_ (fun _ => ?_))
      | exact spath_Parse.mono _ _
      | exact LeO.none _
      | refine LeO.ite ?_ ?_
      | refine LeO.bind ?_ (fun _ => ?_)
set_option maxHeartbeats 8000000 in
set_option maxRecDepth 100000 in
theorem spath_Base.calls (k : Nat) (a0 : ByteArray) (r1 : ByteArray) (r2 : Int) (w : World) (h : spath_Base.f k a0 = some (r1, r2)) :
    Calls Tryd.prog 17 #[.string a0] w fun e w' => e = .returned (.tuple #[.string r1, .int .i64 r2]) ∧ Below w.heap.size w w' := by
  have HB := Aside0.mk (Below.refl w.heap.size w)
  have H : ((spath_Parse.f k a0).bind fun bt190 => (if bt190.2.2 = 0 then (if 13 ≤ (a0.size : Int) then (some (a0.extract 13 a0.size, 0)) else (none)) else (some ((⟨#[]⟩ : ByteArray), bt190.2.2)))) = some (r1, r2) := h
  clear h
  replace H := Option.bind_eq_some_iff.mp H
  obtain ⟨⟨t190, t191, t192⟩, A20, H⟩ := H
  replace H : (if t192 = 0 then (if 13 ≤ (a0.size : Int) then (some (a0.extract 13 a0.size, 0)) else (none)) else (some ((⟨#[]⟩ : ByteArray), t192))) = some (r1, r2) := H
  have A2 := Aside0.mk A20
  clear A20
  by_cases c3 : t192 = 0
  · rw [if_pos c3] at H
    have c3b0 : (t192 == 0) = true := beq_iff_eq.mpr c3
    have c3b1 : (t192 != 0) = false := bne_eq_false_iff_eq.mpr c3
    clear c3
    by_cases c4 : 13 ≤ (a0.size : Int)
    · rw [if_pos c4] at H
      have c4b0 := eq_true c4
      have c4b1 : decide (13 ≤ (a0.size : Int)) = true := decide_eq_true c4
      clear c4
      simp only [Option.some.injEq, Prod.mk.injEq] at H
      obtain ⟨rfl, rfl⟩ := H
      go_enter Tryd.func17, Tryd.ntmps17
      go_wp2_with (first | ((with_reducible refine gate_callee (f := 16) rfl ?_); refine goesL_ (some 9) rfl rfl Tryd.func16 (by kernel_rfl) rfl #[.string a0] rfl (by (try simp only [List.map_toArray, List.map_cons, List.map_nil]); first | done | rfl | (simp only [List.length_drop, List.length_take]; rfl)) ?_; (with_reducible refine (spath_Parse.calls k a0 t190 t191 t192 _ A2.out).mono ?_); rintro e w5 ⟨rfl, hb⟩; refine ⟨_, rfl, ?_⟩; have n0_ := Aside0.mk (below_step (by repeat (first | (with_reducible first | exact HB.out | apply below_alloc | apply pw_below_drewN | apply below_drew1) | exact HB.out)) hb); clear HB; have HB := n0_; clear n0_; (try clear hb); (try clear hb2); (try clear hk); (try clear hi)))
      go_ret2
      exact ⟨by first | rfl | (simp [errW_none, errW_some] <;> rfl) | (simp [*, errW_none, errW_some] <;> rfl), by repeat (first | (with_reducible first | exact HB.out | apply below_alloc | apply pw_below_drewN | apply below_drew1) | exact HB.out)⟩
    · rw [if_neg c4] at H
      exact absurd H (by simp)
  · rw [if_neg c3] at H
    have c3b0 : (t192 == 0) = false := beq_eq_false_iff_ne.mpr c3
    have c3b1 : (t192 != 0) = true := bne_iff_ne.mpr c3
    simp only [Option.some.injEq, Prod.mk.injEq] at H
    obtain ⟨rfl, rfl⟩ := H
    go_enter Tryd.func17, Tryd.ntmps17
    go_wp2_with (first | ((with_reducible refine gate_callee (f := 16) rfl ?_); refine goesL_ (some 9) rfl rfl Tryd.func16 (by kernel_rfl) rfl #[.string a0] rfl (by (try simp only [List.map_toArray, List.map_cons, List.map_nil]); first | done | rfl | (simp only [List.length_drop, List.length_take]; rfl)) ?_; (with_reducible refine (spath_Parse.calls k a0 t190 t191 t192 _ A2.out).mono ?_); rintro e w6 ⟨rfl, hb⟩; refine ⟨_, rfl, ?_⟩; have n0_ := Aside0.mk (below_step (by repeat (first | (with_reducible first | exact HB.out | apply below_alloc | apply pw_below_drewN | apply below_drew1) | exact HB.out)) hb); clear HB; have HB := n0_; clear n0_; (try clear hb); (try clear hb2); (try clear hk); (try clear hi)))
    go_ret2
    exact ⟨by first | rfl | (simp [errW_none, errW_some] <;> rfl) | (simp [*, errW_none, errW_some] <;> rfl), by repeat (first | (with_reducible first | exact HB.out | apply below_alloc | apply pw_below_drewN | apply below_drew1) | exact HB.out)⟩

end Go.Proofs.YtglhbbijoeeclaaDoor.Q
/- By a program of this session's: a plain Lean function for a Go function, and its contract. -/
namespace Go.Proofs.YtglhbbijoeeclaaDoor.Q
open Go.RowKit Go.Proofs.YtglhbbijoeeclaaDoorW.PrintWords Go.Proofs.YtglhbbijoeeclaaDoorW.PrintLast Go.Proofs.YtglhbbijoeeclaaDoorW.PrintMore
attribute [local go_sem] max2_int min2_int max_two min_two max_three min_three max_four min_four Go.Proofs.YtglhbbijoeeclaaDoor.Ord.str_leq Go.Proofs.YtglhbbijoeeclaaDoor.Ord.str_gtr Go.Proofs.YtglhbbijoeeclaaDoor.Ord.str_geq   -- for this text's walks alone
set_option linter.unusedVariables false
set_option linter.unusedSimpArgs false

/-! ### spath_Full: function 18 -/
def spath_Full.f (k : Nat) (a0 : ByteArray) : Option (ByteArray × Int) := if 13 + a0.size ≤ 9223372036854775807 then ((spath_Parse.f k ((⟨#[47, 100, 101, 112, 111, 116, 47, 115, 116, 111, 114, 101, 47]⟩ : ByteArray) ++ a0)).bind fun bt193 => (if bt193.2.2 = 0 then (some ((⟨#[47, 100, 101, 112, 111, 116, 47, 115, 116, 111, 114, 101, 47]⟩ : ByteArray) ++ a0, 0)) else (some ((⟨#[]⟩ : ByteArray), bt193.2.2)))) else (none)
theorem spath_Full.mono : ∀ a0 k, LeO (spath_Full.f k a0) (spath_Full.f (k + 1) a0) := by
  intro a0 k
  unfold spath_Full.f
  repeat' first
      | (with_reducible exact spath_Parse.mono _ _)
      | (with_reducible exact LeO.refl _)
      | (with_reducible exact LeO.none _)
      | (with_reducible refine LeO.ite ?_ ?_)
      | (with_reducible refine LeO.bind ?_ (fun _ => ?_))
      | exact spath_Parse.mono _ _
      | exact LeO.none _
      | refine LeO.ite ?_ ?_
      | refine LeO.bind ?_ (fun _ => ?_)
set_option maxHeartbeats 8000000 in
set_option maxRecDepth 100000 in
theorem spath_Full.calls (k : Nat) (a0 : ByteArray) (r1 : ByteArray) (r2 : Int) (w : World) (h : spath_Full.f k a0 = some (r1, r2)) :
    Calls Tryd.prog 18 #[.string a0] w fun e w' => e = .returned (.tuple #[.string r1, .int .i64 r2]) ∧ Below w.heap.size w w' := by
  have HB := Aside0.mk (Below.refl w.heap.size w)
  have H : (if 13 + a0.size ≤ 9223372036854775807 then ((spath_Parse.f k ((⟨#[47, 100, 101, 112, 111, 116, 47, 115, 116, 111, 114, 101, 47]⟩ : ByteArray) ++ a0)).bind fun bt193 => (if bt193.2.2 = 0 then (some ((⟨#[47, 100, 101, 112, 111, 116, 47, 115, 116, 111, 114, 101, 47]⟩ : ByteArray) ++ a0, 0)) else (some ((⟨#[]⟩ : ByteArray), bt193.2.2)))) else (none)) = some (r1, r2) := h
  clear h
  by_cases c2 : 13 + a0.size ≤ 9223372036854775807
  · rw [if_pos c2] at H
    have c2b0 := eq_true c2
    have c2b1 : decide (13 + a0.size ≤ 9223372036854775807) = true := decide_eq_true c2
    try have c2b2 : (9223372036854775807 < 13 + a0.size) = False := eq_false (Nat.not_lt.2 c2)
    replace H := Option.bind_eq_some_iff.mp H
    obtain ⟨⟨t193, t194, t195⟩, A30, H⟩ := H
    replace H : (if t195 = 0 then (some ((⟨#[47, 100, 101, 112, 111, 116, 47, 115, 116, 111, 114, 101, 47]⟩ : ByteArray) ++ a0, 0)) else (some ((⟨#[]⟩ : ByteArray), t195))) = some (r1, r2) := H
    have A3 := Aside0.mk A30
    clear A30
    by_cases c4 : t195 = 0
    · rw [if_pos c4] at H
      have c4b0 : (t195 == 0) = true := beq_iff_eq.mpr c4
      have c4b1 : (t195 != 0) = false := bne_eq_false_iff_eq.mpr c4
      clear c4
      simp only [Option.some.injEq, Prod.mk.injEq] at H
      obtain ⟨rfl, rfl⟩ := H
      go_enter Tryd.func18, Tryd.ntmps18
      go_wp2_with (first | ((with_reducible refine gate_callee (f := 16) rfl ?_); refine goesL_ (some 10) rfl rfl Tryd.func16 (by kernel_rfl) rfl #[.string ((⟨#[47, 100, 101, 112, 111, 116, 47, 115, 116, 111, 114, 101, 47]⟩ : ByteArray) ++ a0)] rfl (by (try simp only [List.map_toArray, List.map_cons, List.map_nil]); first | done | rfl | (simp only [List.length_drop, List.length_take]; rfl)) ?_; (with_reducible refine (spath_Parse.calls k ((⟨#[47, 100, 101, 112, 111, 116, 47, 115, 116, 111, 114, 101, 47]⟩ : ByteArray) ++ a0) t193 t194 t195 _ A3.out).mono ?_); rintro e w5 ⟨rfl, hb⟩; refine ⟨_, rfl, ?_⟩; have n0_ := Aside0.mk (below_step (by repeat (first | (with_reducible first | exact HB.out | apply below_alloc | apply pw_below_drewN | apply below_drew1) | exact HB.out)) hb); clear HB; have HB := n0_; clear n0_; (try clear hb); (try clear hb2); (try clear hk); (try clear hi)))
      go_ret2
      exact ⟨by first | rfl | (simp [errW_none, errW_some] <;> rfl) | (simp [*, errW_none, errW_some] <;> rfl), by repeat (first | (with_reducible first | exact HB.out | apply below_alloc | apply pw_below_drewN | apply below_drew1) | exact HB.out)⟩
    · rw [if_neg c4] at H
      have c4b0 : (t195 == 0) = false := beq_eq_false_iff_ne.mpr c4
      have c4b1 : (t195 != 0) = true := bne_iff_ne.mpr c4
      simp only [Option.some.injEq, Prod.mk.injEq] at H
      obtain ⟨rfl, rfl⟩ := H
      go_enter Tryd.func18, Tryd.ntmps18
      go_wp2_with (first | ((with_reducible refine gate_callee (f := 16) rfl ?_); refine goesL_ (some 10) rfl rfl Tryd.func16 (by kernel_rfl) rfl #[.string ((⟨#[47, 100, 101, 112, 111, 116, 47, 115, 116, 111, 114, 101, 47]⟩ : ByteArray) ++ a0)] rfl (by (try simp only [List.map_toArray, List.map_cons, List.map_nil]); first | done | rfl | (simp only [List.length_drop, List.length_take]; rfl)) ?_; (with_reducible refine (spath_Parse.calls k ((⟨#[47, 100, 101, 112, 111, 116, 47, 115, 116, 111, 114, 101, 47]⟩ : ByteArray) ++ a0) t193 t194 t195 _ A3.out).mono ?_); rintro e w6 ⟨rfl, hb⟩; refine ⟨_, rfl, ?_⟩; have n0_ := Aside0.mk (below_step (by repeat (first | (with_reducible first | exact HB.out | apply below_alloc | apply pw_below_drewN | apply below_drew1) | exact HB.out)) hb); clear HB; have HB := n0_; clear n0_; (try clear hb); (try clear hb2); (try clear hk); (try clear hi)))
      go_ret2
      exact ⟨by first | rfl | (simp [errW_none, errW_some] <;> rfl) | (simp [*, errW_none, errW_some] <;> rfl), by repeat (first | (with_reducible first | exact HB.out | apply below_alloc | apply pw_below_drewN | apply below_drew1) | exact HB.out)⟩
  · rw [if_neg c2] at H
    exact absurd H (by simp)

end Go.Proofs.YtglhbbijoeeclaaDoor.Q
/- Base, Full and a path that was made, in plain Lean. -/
set_option linter.unusedVariables false
set_option linter.unusedSimpArgs false
namespace Go.Proofs.YtglhbbijoeeclaaDoor.SpathMore
open Go.RowKit Go.Proofs.YtglhbbijoeeclaaDoor.Q Go.Proofs.YtglhbbijoeeclaaDoorW.PrintWords Go.Proofs.YtglhbbijoeeclaaDoorW.PrintLast Go.Proofs.YtglhbbijoeeclaaDoorW.PrintMore Go.Proofs.YtglhbbijoeeclaaDoor.Bytes Go.Proofs.YtglhbbijoeeclaaDoor.Evs Go.Proofs.YtglhbbijoeeclaaDoor.SpathPure Go.Proofs.YtglhbbijoeeclaaDoor.B32
theorem big (s : ByteArray) (h : (parseB s).2.2 = 0) : 46 ≤ (bs s).length := by
  unfold parseB at h
  by_cases hp : isPath0 (bs s)
  · exact hp.2.1
  · rw [if_neg hp] at h
    exact absurd h (by decide)
theorem base (s : ByteArray) (hs : (bs s).length ≤ 140737488355000) : Ev (fun k => spath_Base.f k s) (if (parseB s).2.2 = 0 then (s.extract 13 s.size, 0) else (⟨#[]⟩, (parseB s).2.2)) := by
  unfold spath_Base.f
  refine Ev.bind (prog_parse s hs) ?_
  by_cases h : (parseB s).2.2 = 0
  · have := big s h
    exact pos h (pos (by rw [size_bs]; omega) (same (if_pos h) (Ev.now _)))
  · exact neg h (same (if_neg h) (Ev.now _))
theorem full (s : ByteArray) (hs : (bs s).length ≤ 140737488351232) : Ev (fun k => spath_Full.f k s) (if (parseB (DIR ++ s)).2.2 = 0 then (DIR ++ s, 0) else (⟨#[]⟩, (parseB (DIR ++ s)).2.2)) := by
  unfold spath_Full.f
  have z : (bs DIR).length = 13 := rfl
  refine pos (by rw [size_bs]; omega) (Ev.bind (prog_parse (DIR ++ s) (by rw [bs_append, List.length_append]; omega)) ?_)
  by_cases h : (parseB (DIR ++ s)).2.2 = 0
  · exact pos h (same (if_pos h) (Ev.now _))
  · exact neg h (same (if_neg h) (Ev.now _))
def dash : ByteArray := ⟨#[45]⟩
/-- What the parts of a path are. -/
theorem made_parts (b label : ByteArray) (hb : (bs b).length = 32) : (DIR ++ b ++ dash ++ label).extract 13 45 = b ∧ (DIR ++ b ++ dash ++ label).extract 46 (DIR ++ b ++ dash ++ label).size = label ∧ (DIR ++ b ++ dash ++ label).extract 13 (DIR ++ b ++ dash ++ label).size = b ++ dash ++ label ∧ isPath0 (bs (DIR ++ b ++ dash ++ label)) ∨ (bs label).length = 0 := by
  by_cases hl : (bs label).length = 0
  · exact .inr hl
  left
  have e : bs (DIR ++ b ++ dash ++ label) = dirL ++ (bs b ++ (45 :: bs label)) := by
    simp only [bs_append]
    rw [show bs DIR = dirL from rfl, show bs dash = [45] from rfl]
    simp
  have z : dirL.length = 13 := rfl
  have hlen : (bs (DIR ++ b ++ dash ++ label)).length = 46 + (bs label).length := by
    rw [e]
    simp only [List.length_append, List.length_cons]
    omega
  refine ⟨?_, ?_, ?_, ?_, ?_, ?_⟩
  · apply bs_inj
    rw [bs_extract, e, List.drop_append_of_le_length (by omega), List.drop_of_length_le (by omega), List.nil_append, List.take_append_of_le_length (by omega), List.take_of_length_le (by omega)]
  · apply bs_inj
    rw [bs_extract, size_bs, hlen, e, show dirL ++ (bs b ++ 45 :: bs label) = (dirL ++ bs b ++ [45]) ++ bs label by simp, List.drop_append_of_le_length (by simp; omega), List.drop_of_length_le (by simp; omega), List.nil_append, List.take_of_length_le (by omega)]
  · apply bs_inj
    rw [bs_extract, size_bs, hlen, e, List.drop_append_of_le_length (by omega), List.drop_of_length_le (by omega), List.nil_append, List.take_of_length_le (by simp only [List.length_append, List.length_cons]; omega)]
    simp only [bs_append]
    rw [show bs dash = [45] from rfl]
    simp
  · rw [e]; exact List.prefix_append _ _
  · omega
  · rw [e, List.getElem?_append_right (by omega), List.getElem?_append_right (by omega), z, hb]
    rfl
/-- A path that was made parses. -/
theorem made_parse (b label : ByteArray) (hb : (bs b).length = 32) (hv : ∀ c ∈ bs b, 0 ≤ val c) (hl : labelNo (bs label) = 0) (hl0 : 0 < (bs label).length) :
    parseB (DIR ++ b ++ dash ++ label) = (b, label, 0) ∧ (DIR ++ b ++ dash ++ label).extract 13 (DIR ++ b ++ dash ++ label).size = b ++ dash ++ label ∧ hashNo (bs b) = 0 := by
  rcases made_parts b label hb with ⟨h1, h2, h3, h4⟩ | h
  · have hh : hashNo (bs b) = 0 := by unfold hashNo; rw [if_pos ⟨hb, hv⟩]
    refine ⟨?_, h3, hh⟩
    unfold parseB
    rw [if_pos h4, h1, h2, if_pos hh, if_pos hl]
  · omega
end Go.Proofs.YtglhbbijoeeclaaDoor.SpathMore
/- depotlaw13.SpathBack, walked by hand. -/
namespace Go.Proofs.YtglhbbijoeeclaaDoor.Sha
open Go.RowKit Go.Proofs.YtglhbbijoeeclaaDoor.Q Go.Proofs.YtglhbbijoeeclaaDoorW.PrintWords Go.Proofs.YtglhbbijoeeclaaDoorW.PrintLast Go.Proofs.YtglhbbijoeeclaaDoorW.PrintMore Go.Proofs.YtglhbbijoeeclaaDoor.Bytes Go.Proofs.YtglhbbijoeeclaaDoor.TextTrue
set_option linter.unusedVariables false
set_option linter.unusedSimpArgs false

set_option maxRecDepth 100000 in
set_option maxHeartbeats 8000000 in
theorem back_good (w : World) (hG : Glob w) (A : Option Addr) (c : Nat) (refs : List ByteArray) (d : List UInt8) (hd : d.length = 32) (label p b32 base : ByteArray) (hr : Kd.C Kd.string w A refs.length refs) (hc : refs.length ≤ c)
    (ka kp kb kf kh kr : Nat) (ha : depotlaw13_awake.f ka = some true) (hM : MakeGives refs d label p 0) (h1 : spath_CheckLabel.f label = some 0) (h2 : spath_CheckRefs.f kr refs = some 0)
    (hp : spath_Parse.f kp p = some (b32, label, 0)) (hb : spath_Base.f kb p = some (base, 0)) (hf : spath_Full.f kf base = some (p, 0)) (hh : spath_CheckHash.f kh b32 = some 0) (hbase : b32 ++ (⟨#[45]⟩ : ByteArray) ++ label = base) (hb32 : b32.size < 1000000) (hll : label.size < 1000000) :
    Calls Tryd.prog 6 #[.slice A refs.length c, .agg (d.map bcell).toArray, .string label] w fun e w' => e = .returned (.bool true) ∧ Below w.heap.size w w' := by
  have C0 := Aside0.mk (fun W => depotlaw13_awake.calls ka true W ha)
  have CM := Aside0.mk (fun (W : World) (h : Below w.heap.size w W) => hM W (hG.below h hG.lt) A c (Kd.C_below hr h) hc)
  have CP := Aside0.mk (fun W => spath_Parse.calls kp p b32 label 0 W hp)
  have CB := Aside0.mk (fun W => spath_Base.calls kb p base 0 W hb)
  have CF := Aside0.mk (fun W => spath_Full.calls kf base p 0 W hf)
  have CH := Aside0.mk (fun W => spath_CheckHash.calls kh b32 0 W hh)
  have CL := Aside0.mk (fun W => spath_CheckLabel.calls label 0 W h1)
  have CR := Aside0.mk (fun (W : World) (h : Below w.heap.size w W) => spath_CheckRefs.calls kr A c refs 0 W (Kd.C_below hr h) hc h2)
  have HB1 := Aside0.mk ((Below.refl w.heap.size w).alloc (Nat.le_refl _) (.cells (d.map bcell).toArray 23))
  have HX1 := Aside0.mk (World.alloc_heap_new w (.cells (d.map bcell).toArray 23))
  have HD := Aside0.mk hd
  have s1 : (b32.size + 1 ≤ 9223372036854775807) = True := eq_true (by omega)
  have s2 : (b32.size + 1 + label.size ≤ 9223372036854775807) = True := eq_true (by omega)
  have c1 : (label.toList == label.toList) = true := by simp
  have c2 : (base.toList == (b32 ++ (⟨#[45]⟩ : ByteArray) ++ label).toList) = true := by rw [hbase]; simp
  have c3 : (p.toList == p.toList) = true := by simp
  clear hG hd ha hM h1 h2 hp hb hf hh hr hbase
  go_enter Tryd.func6, Tryd.ntmps6
  go_wp2_with (first
    | (go_at_call 7; (refine (C0.out _).mono ?_); rintro e w2 ⟨rfl, hb2⟩; have HB2 := Aside0.mk (HB1.out.trans (hb2.mono HB1.out.size)); have HX2 := Aside0.mk ((hb2.block _ (Array.getElem?_eq_some_iff.1 HX1.out).1).trans HX1.out); clear hb2)
    | ((with_reducible refine gate_dst (N := 20) rfl ?_); refine wpList_load_mid rfl 23 (.tmp 4) rfl w.heap.size 0 rfl (d.map bcell) _ (range_row HX2.out) Tryd.underlying23 rfl (by rw [List.length_map, HD.out]; kernel_rfl) ?_)
    | (go_at_call 8; ((with_reducible refine (CM.out w2 HB2.out).mono ?_)); rintro e w3 ⟨rfl, hb3⟩; have HB3 := Aside0.mk (HB2.out.trans (hb3.mono HB2.out.size)); clear hb3)
    | (go_at_call 16; ((with_reducible refine (CP.out w3).mono ?_)); rintro e w4 ⟨rfl, hb4⟩; have HB4 := Aside0.mk (HB3.out.trans (hb4.mono HB3.out.size)); clear hb4)
    | (go_at_call 17; ((with_reducible refine (CB.out w4).mono ?_)); rintro e w5 ⟨rfl, hb5⟩; have HB5 := Aside0.mk (HB4.out.trans (hb5.mono HB4.out.size)); clear hb5)
    | (go_at_call 18; ((with_reducible refine (CF.out w5).mono ?_)); rintro e w6 ⟨rfl, hb6⟩; have HB6 := Aside0.mk (HB5.out.trans (hb6.mono HB5.out.size)); clear hb6)
    | (go_at_call 19; ((with_reducible refine (CH.out w6).mono ?_)); rintro e w7 ⟨rfl, hb7⟩; have HB7 := Aside0.mk (HB6.out.trans (hb7.mono HB6.out.size)); clear hb7)
    | (go_at_call 15; ((with_reducible refine (CL.out w7).mono ?_)); rintro e w8 ⟨rfl, hb8⟩; have HB8 := Aside0.mk (HB7.out.trans (hb8.mono HB7.out.size)); clear hb8)
    | (go_at_call 14; ((with_reducible refine (CR.out w8 HB8.out).mono ?_)); rintro e w9 ⟨rfl, hb9⟩; have HB9 := Aside0.mk (HB8.out.trans (hb9.mono HB8.out.size)); clear hb9))
  go_ret
  exact ⟨rfl, HB9.out⟩
set_option maxRecDepth 100000 in
set_option maxHeartbeats 8000000 in
theorem back_label (w : World) (hG : Glob w) (A : Option Addr) (c : Nat) (refs : List ByteArray) (d : List UInt8) (hd : d.length = 32) (label : ByteArray) (hr : Kd.C Kd.string w A refs.length refs) (hc : refs.length ≤ c)
    (ka : Nat) (e1 : Int) (he : e1 ≠ 0) (ha : depotlaw13_awake.f ka = some true) (hM : MakeGives refs d label ⟨#[]⟩ e1) (h1 : spath_CheckLabel.f label = some e1) :
    Calls Tryd.prog 6 #[.slice A refs.length c, .agg (d.map bcell).toArray, .string label] w fun e w' => e = .returned (.bool true) ∧ Below w.heap.size w w' := by
  have C0 := Aside0.mk (fun W => depotlaw13_awake.calls ka true W ha)
  have CM := Aside0.mk (fun (W : World) (h : Below w.heap.size w W) => hM W (hG.below h hG.lt) A c (Kd.C_below hr h) hc)
  have CL := Aside0.mk (fun W => spath_CheckLabel.calls label e1 W h1)
  have HB1 := Aside0.mk ((Below.refl w.heap.size w).alloc (Nat.le_refl _) (.cells (d.map bcell).toArray 23))
  have HX1 := Aside0.mk (World.alloc_heap_new w (.cells (d.map bcell).toArray 23))
  have HD := Aside0.mk hd
  have d1 : decide (e1 = 0) = false := decide_eq_false he
  clear hG hd ha hM h1 hr
  go_enter Tryd.func6, Tryd.ntmps6
  go_wp2_with (first
    | (go_at_call 7; (refine (C0.out _).mono ?_); rintro e w2 ⟨rfl, hb2⟩; have HB2 := Aside0.mk (HB1.out.trans (hb2.mono HB1.out.size)); have HX2 := Aside0.mk ((hb2.block _ (Array.getElem?_eq_some_iff.1 HX1.out).1).trans HX1.out); clear hb2)
    | ((with_reducible refine gate_dst (N := 20) rfl ?_); refine wpList_load_mid rfl 23 (.tmp 4) rfl w.heap.size 0 rfl (d.map bcell) _ (range_row HX2.out) Tryd.underlying23 rfl (by rw [List.length_map, HD.out]; kernel_rfl) ?_)
    | (go_at_call 8; ((with_reducible refine (CM.out w2 HB2.out).mono ?_)); rintro e w3 ⟨rfl, hb3⟩; have HB3 := Aside0.mk (HB2.out.trans (hb3.mono HB2.out.size)); clear hb3)
    | (go_at_call 15; ((with_reducible refine (CL.out w3).mono ?_)); rintro e w4 ⟨rfl, hb4⟩; have HB4 := Aside0.mk (HB3.out.trans (hb4.mono HB3.out.size)); clear hb4))
  go_ret
  exact ⟨rfl, HB4.out⟩
set_option maxRecDepth 100000 in
set_option maxHeartbeats 8000000 in
theorem back_refs (w : World) (hG : Glob w) (A : Option Addr) (c : Nat) (refs : List ByteArray) (d : List UInt8) (hd : d.length = 32) (label : ByteArray) (hr : Kd.C Kd.string w A refs.length refs) (hc : refs.length ≤ c)
    (ka kr : Nat) (e1 : Int) (he : e1 ≠ 0) (ha : depotlaw13_awake.f ka = some true) (hM : MakeGives refs d label ⟨#[]⟩ e1) (h1 : spath_CheckLabel.f label = some 0) (h2 : spath_CheckRefs.f kr refs = some e1) :
    Calls Tryd.prog 6 #[.slice A refs.length c, .agg (d.map bcell).toArray, .string label] w fun e w' => e = .returned (.bool true) ∧ Below w.heap.size w w' := by
  have C0 := Aside0.mk (fun W => depotlaw13_awake.calls ka true W ha)
  have CM := Aside0.mk (fun (W : World) (h : Below w.heap.size w W) => hM W (hG.below h hG.lt) A c (Kd.C_below hr h) hc)
  have CL := Aside0.mk (fun W => spath_CheckLabel.calls label 0 W h1)
  have CR := Aside0.mk (fun (W : World) (h : Below w.heap.size w W) => spath_CheckRefs.calls kr A c refs e1 W (Kd.C_below hr h) hc h2)
  have HB1 := Aside0.mk ((Below.refl w.heap.size w).alloc (Nat.le_refl _) (.cells (d.map bcell).toArray 23))
  have HX1 := Aside0.mk (World.alloc_heap_new w (.cells (d.map bcell).toArray 23))
  have HD := Aside0.mk hd
  have d1 : decide (e1 = 0) = false := decide_eq_false he
  have d2 : decide ((0 : Int) = e1) = false := decide_eq_false (fun h => he h.symm)
  have d3 : decide (0 = e1) = false := decide_eq_false (fun h => he h.symm)
  clear hG hd ha hM h1 h2 hr
  go_enter Tryd.func6, Tryd.ntmps6
  go_wp2_with (first
    | (go_at_call 7; (refine (C0.out _).mono ?_); rintro e w2 ⟨rfl, hb2⟩; have HB2 := Aside0.mk (HB1.out.trans (hb2.mono HB1.out.size)); have HX2 := Aside0.mk ((hb2.block _ (Array.getElem?_eq_some_iff.1 HX1.out).1).trans HX1.out); clear hb2)
    | ((with_reducible refine gate_dst (N := 20) rfl ?_); refine wpList_load_mid rfl 23 (.tmp 4) rfl w.heap.size 0 rfl (d.map bcell) _ (range_row HX2.out) Tryd.underlying23 rfl (by rw [List.length_map, HD.out]; kernel_rfl) ?_)
    | (go_at_call 8; ((with_reducible refine (CM.out w2 HB2.out).mono ?_)); rintro e w3 ⟨rfl, hb3⟩; have HB3 := Aside0.mk (HB2.out.trans (hb3.mono HB2.out.size)); clear hb3)
    | (go_at_call 15; ((with_reducible refine (CL.out w3).mono ?_)); rintro e w4 ⟨rfl, hb4⟩; have HB4 := Aside0.mk (HB3.out.trans (hb4.mono HB3.out.size)); clear hb4)
    | (go_at_call 15; ((with_reducible refine (CL.out w4).mono ?_)); rintro e w5 ⟨rfl, hb5⟩; have HB5 := Aside0.mk (HB4.out.trans (hb5.mono HB4.out.size)); clear hb5)
    | (go_at_call 14; ((with_reducible refine (CR.out w5 HB5.out).mono ?_)); rintro e w6 ⟨rfl, hb6⟩; have HB6 := Aside0.mk (HB5.out.trans (hb6.mono HB5.out.size)); clear hb6))
  go_ret
  exact ⟨rfl, HB6.out⟩
/-- SpathBack answers true. -/
theorem back_true (w : World) (hG : Glob w) (A : Option Addr) (c : Nat) (refs : List ByteArray) (d : List UInt8) (hd : d.length = 32) (label : ByteArray) (hr : Kd.C Kd.string w A refs.length refs) (hc : refs.length ≤ c) (hsz : ∀ x ∈ refs, x.size ≤ 140737488351232) :
    Calls Tryd.prog 6 #[.slice A refs.length c, .agg (d.map bcell).toArray, .string label] w fun e w' => e = .returned (.bool true) ∧ Below w.heap.size w w' := by
  obtain ⟨ka, hka⟩ := SpathPure.awake
  have ha := hka ka (Nat.le_refl _)
  obtain ⟨kr, hkr⟩ := Refs.prog_refs refs hsz
  have h2 := hkr kr (Nat.le_refl _)
  obtain ⟨p, e1, hM, h⟩ := make_all refs d hd label hsz
  have h1 : spath_CheckLabel.f label = some (labelNo (bs label)) := rfl
  rcases h with ⟨he, rfl, hl | ⟨hl, hq⟩⟩ | ⟨rfl, hl, hq, hxs, b32, _, _, e32, hbl, rfl⟩
  · rw [hl] at h1
    exact back_label w hG A c refs d hd label hr hc ka e1 he ha hM h1
  · rw [hl] at h1
    rw [hq] at h2
    exact back_refs w hG A c refs d hd label hr hc ka kr e1 he ha hM h1 h2
  · rw [hl] at h1
    rw [hq] at h2
    have hll := TextPure.label_len hl
    have hl0 : 0 < (bs label).length := by
      cases hb0 : bs label with
      | nil => rw [hb0] at hl; exact absurd hl (by decide)
      | cons a l => simp
    have hbs : (bs b32).length = 32 := by rw [← size_bs]; exact hbl
    have hv : ∀ c ∈ bs b32, 0 ≤ B32.val c := by rw [e32, bs_mk]; exact B32.enc_val _
    obtain ⟨q1, q2, q3⟩ := SpathMore.made_parse b32 label hbs hv hl hl0
    have hsz2 : (bs (SpathPure.DIR ++ b32 ++ SpathMore.dash ++ label)).length ≤ 1000000 := by
      simp only [bs_append, List.length_append]
      have z : (bs SpathPure.DIR).length = 13 := rfl
      have z2 : (bs SpathMore.dash).length = 1 := rfl
      omega
    obtain ⟨kp, hp⟩ := SpathPure.prog_parse (SpathPure.DIR ++ b32 ++ SpathMore.dash ++ label) (by omega)
    obtain ⟨kc, hb3⟩ := SpathMore.base (SpathPure.DIR ++ b32 ++ SpathMore.dash ++ label) (by omega)
    have hfull : SpathPure.DIR ++ (b32 ++ SpathMore.dash ++ label) = SpathPure.DIR ++ b32 ++ SpathMore.dash ++ label := by
      apply bs_inj
      simp only [bs_append, List.append_assoc]
    obtain ⟨kf, hf⟩ := SpathMore.full (b32 ++ SpathMore.dash ++ label) (by
      rw [← hfull, bs_append, List.length_append] at hsz2
      omega)
    obtain ⟨kh, hh⟩ := SpathPure.prog_hash b32 (by omega)
    have fp := hp kp (Nat.le_refl _)
    have fb := hb3 kc (Nat.le_refl _)
    have ff := hf kf (Nat.le_refl _)
    have fh := hh kh (Nat.le_refl _)
    rw [q1] at fp
    rw [q1, if_pos rfl, q2] at fb
    rw [hfull, q1, if_pos rfl] at ff
    rw [q3] at fh
    exact back_good w hG A c refs d hd label _ b32 (b32 ++ SpathMore.dash ++ label) hr hc ka kp kc kf kh kr ha hM h1 h2 fp fb ff fh rfl (by omega) (by rw [size_bs]; omega)
end Go.Proofs.YtglhbbijoeeclaaDoor.Sha
/- A world in which the listed variables (SHA-256's two tables) read as the row lists them: the door's own heap, the tables laid. -/
namespace Go.Proofs.YtglhbbijoeeclaaDoor.Door
open Go
set_option linter.unusedVariables false

def cellsOfData : DataW Unit → Array Value
  | .agg l => (l.map fun | .lit (.int k x) => Value.int k x | _ => undef).toArray
  | _ => #[]
/-- The two tables' numbers. -/
theorem gStart : Tryd.prog.globalNamed "depot/sha.start" = some 0 := by kernel_rfl
theorem gRounds : Tryd.prog.globalNamed "depot/sha.rounds" = some 1 := by kernel_rfl
noncomputable def W0 (os : Os) : World :=
  { World.doorLaid Tryd.prog 19 os with heap := ((World.doorLaid Tryd.prog 19 os).heap.modify 0 fun | .cells _ t f => .cells (cellsOfData Rows.laid_depot_sha_start) t f | o => o).modify 1 fun | .cells _ t f => .cells (cellsOfData Rows.laid_depot_sha_rounds) t f | o => o }
abbrev laid2 : List (String × DataW Unit) := Rows.spathTextRow.laid
theorem met (os : Os) (args : Array Value) : laidMetH Tryd.prog laid2 ((W0 os).forCall (fun _ _ => 0) ⟨#[], args, []⟩).memory :=
  laidMetH_of_parts3 (fuel := 8) (laidMet_of_run' 8 (by kernel_rfl) (by kernel_rfl)) (by kernel_rfl) (by kernel_rfl)
theorem shaped (os : Os) (args : Array Value) : ((W0 os).forCall (fun _ _ => 0) ⟨#[], args, []⟩).Shaped Tryd.prog := World.shaped_of_RefB (by kernel_rfl) (by kernel_rfl)
end Go.Proofs.YtglhbbijoeeclaaDoor.Door
/- What came in, opened by its kind: a reading of a value ys data gives the Lean value of the print's kinds, with its sizes. For rows over slices and structs. -/
set_option linter.unusedVariables false
set_option linter.unusedSimpArgs false
namespace Go.Proofs.YtglhbbijoeeclaaDoor.Opens
open Go.RowKit Go.Deep Go.Proofs.YtglhbbijoeeclaaDoorW.PrintWords

section
variable {α β : Type}
/-- A reading at type t gives a value of kind d: its cells (K), its weights (each no more than one of the datum's, or 0), its bulk, and what is good about its numbers. -/
structure Opens (P : Program) (t : TypeId) (d : Kd α) (Wt : α → List Nat) (Bk : α → Nat) (Gd : α → Prop) : Prop where
  sz : P.cellsOf t = d.sz
  out : ∀ {H : Type} {enc : TypeId × Value → H} {w : World} {base : Nat} {spare : Nat → Bool} {held : Bool} {fuel : Nat} {cs : List Value} {x : DataW H × List MemPlace},
    DataW.trod enc P w base spare held fuel t cs = some x → ∃ a, d.K w a cs ∧ (∀ n ∈ Wt a, n = 0 ∨ ∃ m ∈ x.1.weights P t, n ≤ m) ∧ Bk a ≤ Rows.uptoBulk x.1 ∧ Gd a

variable {P : Program} {t : TypeId}
theorem opens_string (ht : P.underlying t = some .string) (hs : P.cellsOf t = 1) : Opens P t Kd.string (fun s => [s.size]) (fun s => s.size + 1) (fun s => s.size ≤ maxLen) := by
  refine ⟨hs, fun {H enc w base spare held fuel cs x} h => ?_⟩
  obtain ⟨s, rfl, rfl, hw⟩ := DataW.trod_string ht h
  refine ⟨s, rfl, ?_, ?_, hw⟩
  · intro n hn
    rw [List.mem_singleton] at hn
    refine .inr ⟨s.data.toList.length, by rw [DataW.weights]; exact List.mem_singleton.2 rfl, ?_⟩
    rw [hn, Array.length_toList]
    exact Nat.le_refl _
  · rw [Rows.uptoBulk, Array.length_toList]
    exact Nat.le_refl _
theorem opens_bool (ht : P.underlying t = some .bool) (hs : P.cellsOf t = 1) : Opens P t Kd.bool (fun _ => []) (fun _ => 1) (fun _ => True) := by
  refine ⟨hs, fun {H enc w base spare held fuel cs x} h => ?_⟩
  obtain ⟨b, rfl, rfl⟩ := DataW.trod_bool ht h
  exact ⟨b, rfl, fun _ h => absurd h (by simp), by rw [Rows.uptoBulk] <;> simp, trivial⟩
theorem opens_int {k : IntKind} (ht : P.underlying t = some (.int k)) (hs : P.cellsOf t = 1) : Opens P t (Kd.int k) (fun _ => []) (fun _ => 1) (fun n => (Lit.int k n).wf = true) := by
  refine ⟨hs, fun {H enc w base spare held fuel cs x} h => ?_⟩
  obtain ⟨n, rfl, rfl, hw⟩ := DataW.trod_int ht h
  exact ⟨n, rfl, fun _ h => absurd h (by simp), by rw [Rows.uptoBulk] <;> simp, hw⟩

theorem list_of {Q : Nat → α → Prop} : ∀ (n : Nat), (∀ i, i < n → ∃ a, Q i a) → ∃ ys : List α, ys.length = n ∧ ∀ i a, ys[i]? = some a → Q i a
  | 0, _ => ⟨[], rfl, fun i a h => by simp at h⟩
  | n + 1, h => by
    obtain ⟨ys, hl, hq⟩ := list_of n (fun i hi => h i (by omega))
    obtain ⟨a, ha⟩ := h n (by omega)
    refine ⟨ys ++ [a], by simp [hl], fun i b hb => ?_⟩
    rcases Nat.lt_or_ge i n with hi | hi
    · rw [List.getElem?_append_left (by omega)] at hb
      exact hq i b hb
    · have : i < (ys ++ [a]).length := (List.getElem?_eq_some_iff.1 hb).1
      simp [hl] at this
      have e : i = n := by omega
      subst e
      rw [List.getElem?_append_right (by omega), hl, Nat.sub_self] at hb
      simp at hb
      subst hb
      exact ha
theorem sum_le_range (ys : List α) (Bk : α → Nat) (b : Nat → Nat) (h : ∀ i a, ys[i]? = some a → Bk a ≤ b i) : (ys.map Bk).sum ≤ ((List.range ys.length).map b).sum := by
  induction ys generalizing b with
  | nil => simp
  | cons a ys ih =>
    have h0 := h 0 a rfl
    have h1 := ih (fun i => b (i + 1)) (fun i a ha => h (i + 1) a (by simpa using ha))
    rw [List.length_cons, List.range_succ_eq_map, List.map_cons, List.sum_cons, List.map_cons, List.sum_cons, List.map_map]
    have e : (List.map (b ∘ Nat.succ) (List.range ys.length)) = List.map (fun i => b (i + 1)) (List.range ys.length) := rfl
    rw [e]
    omega
theorem bulkAll_sum {H : Type} (l : List (DataW H)) : Rows.uptoBulkAll l = (l.map Rows.uptoBulk).sum := by
  induction l with
  | nil => rfl
  | cons d l ih => rw [Rows.uptoBulkAll, ih, List.map_cons, List.sum_cons]
theorem weightsAll_mem {H : Type} {e : TypeId} : ∀ (l : List (DataW H)) (d : DataW H), d ∈ l → ∀ m ∈ d.weights P e, m ∈ DataW.weightsAll P e l
  | [], d, h => absurd h (by simp)
  | d' :: l, d, h => by
    intro m hm
    rw [DataW.weightsAll, List.mem_append]
    rcases List.mem_cons.1 h with rfl | h
    · exact .inl hm
    · exact .inr (weightsAll_mem l d h m hm)

theorem opens_slice {e : TypeId} {d : Kd α} {Wt : α → List Nat} {Bk : α → Nat} {Gd : α → Prop} (ht : P.underlying t = some (.slice e)) (hs : P.cellsOf t = 1) (he : Opens P e d Wt Bk Gd) :
    Opens P t (Kd.slice e d) (fun xs => (xs.length * P.bytesOf e) :: xs.flatMap Wt) (fun xs => (xs.map Bk).sum + 1) (fun xs => xs.length ≤ maxLen ∧ ∀ x ∈ xs, Gd x) := by
  refine ⟨hs, fun {H enc w base spare held fuel cs x} h => ?_⟩
  rcases open_slice ht h with ⟨rfl, rfl⟩ | ⟨a, len, cap, m, n, D, Pl, rfl, hb, hl, hm, hmm, rfl, hx⟩
  · exact ⟨[], ⟨none, 0, rfl, Nat.le_refl _, Kd.C_nil d w⟩, fun n hn => .inl (by simpa using hn), by rw [Rows.uptoBulk]; simp, by simp, by simp⟩
  · have hlm : len ≤ m := by rw [hmm]; split <;> omega
    have each : ∀ i, i < len → ∃ b : α, (∃ cs', w.cells? base (a.add (i * P.cellsOf e)) (P.cellsOf e) = some cs' ∧ d.K w b cs') ∧ (∀ q ∈ Wt b, q = 0 ∨ ∃ r ∈ (D i).weights P e, q ≤ r) ∧ Bk b ≤ Rows.uptoBulk (D i) ∧ Gd b := by
      intro i hi
      obtain ⟨cs', h1, h2⟩ := hx i (by omega)
      obtain ⟨b, hK, hw, hk, hg⟩ := he.out h2
      exact ⟨b, ⟨cs', h1, hK⟩, hw, hk, hg⟩
    obtain ⟨ys, hal, has⟩ := list_of len each
    subst hal
    refine ⟨ys, ⟨some a, cap, rfl, hl, rfl, by unfold maxLen at hm; omega, fun hp => ⟨a, rfl, fun j p hj => ?_⟩⟩, ?_, ?_, by omega, ?_⟩
    · obtain ⟨⟨cs', h1, hK⟩, _⟩ := has j p hj
      refine ⟨cs', d.K_len hK, hK, fun i u hu => ?_⟩
      have hc := World.cells?_some h1
      rw [he.sz] at hc
      obtain ⟨hc0, hc1, hc2⟩ := hc
      have hi : i < d.sz := by rw [← d.K_len hK]; exact (List.getElem?_eq_some_iff.1 hu).1
      have := hc2 i (by omega)
      rw [hu] at this
      rw [Go.Deep.add_add] at this
      exact this
    · intro q hq
      rw [List.mem_cons, List.mem_flatMap] at hq
      have hwt : (DataW.slice ((List.range ys.length).map D) ((List.range (m - ys.length)).map fun j => D (ys.length + j)) : DataW H).weights P t = (((List.range ys.length).map D).length + ((List.range (m - ys.length)).map fun j => D (ys.length + j)).length) * P.bytesOf e :: (DataW.weightsAll P e ((List.range ys.length).map D) ++ DataW.weightsAll P e ((List.range (m - ys.length)).map fun j => D (ys.length + j))) := by
        rw [DataW.weights, ht]
      show q = 0 ∨ ∃ r ∈ (DataW.slice ((List.range ys.length).map D) ((List.range (m - ys.length)).map fun j => D (ys.length + j)) : DataW H).weights P t, q ≤ r
      rw [hwt]
      rcases hq with rfl | ⟨b, hbm, hq⟩
      · refine .inr ⟨_, List.mem_cons_self, ?_⟩
        refine Nat.mul_le_mul_right _ ?_
        simp
      · obtain ⟨i, hi⟩ := List.getElem?_of_mem hbm
        have hil : i < ys.length := (List.getElem?_eq_some_iff.1 hi).1
        obtain ⟨_, hw, _⟩ := has i b hi
        rcases hw q hq with h0 | ⟨r, hr, hqr⟩
        · exact .inl h0
        · exact .inr ⟨r, List.mem_cons_of_mem _ (List.mem_append_left _ (weightsAll_mem _ (D i) (List.mem_map.2 ⟨i, List.mem_range.2 hil, rfl⟩) r hr)), hqr⟩
    · show _ ≤ Rows.uptoBulk (DataW.slice ((List.range ys.length).map D) ((List.range (m - ys.length)).map fun j => D (ys.length + j)) : DataW H)
      rw [Rows.uptoBulk, bulkAll_sum, List.map_map]
      have := sum_le_range ys Bk (fun i => Rows.uptoBulk (D i)) (fun i b hb => (has i b hb).2.2.1)
      have e2 : (List.map (Rows.uptoBulk ∘ D) (List.range ys.length)) = List.map (fun i => Rows.uptoBulk (D i)) (List.range ys.length) := rfl
      rw [e2]
      omega
    · intro b hbm
      obtain ⟨i, hi⟩ := List.getElem?_of_mem hbm
      exact (has i b hi).2.2.2

/-- Fields, from a place on. -/
structure OpensF (P : Program) (fs : List Field) (off : Nat) (d : Kd α) (Wt : α → List Nat) (Bk : α → Nat) (Gd : α → Prop) : Prop where
  out : ∀ {H : Type} {enc : TypeId × Value → H} {w : World} {base : Nat} {spare : Nat → Bool} {held : Bool} {fuel : Nat} {cs : List Value} {xs : List (DataW H × List MemPlace)},
    cs.length = off + d.sz → xs.length = fs.length → (∀ (i : Nat) (f : Field), fs[i]? = some f → DataW.trod enc P w base spare held fuel f.type ((cs.drop f.offset).take (P.cellsOf f.type)) = xs[i]?) →
    ∃ a, d.K w a (cs.drop off) ∧ (∀ n ∈ Wt a, n = 0 ∨ ∃ m ∈ DataW.weightsEach P (fs.map (·.type)) (xs.map (·.1)), n ≤ m) ∧ Bk a ≤ Rows.uptoBulkAll (xs.map (·.1)) ∧ Gd a
theorem opensF_one {f : Field} {off : Nat} {d : Kd α} {Wt : α → List Nat} {Bk : α → Nat} {Gd : α → Prop} (ho : f.offset = off) (he : Opens P f.type d Wt Bk Gd) : OpensF P [f] off d Wt Bk Gd := by
  refine ⟨fun {H enc w base spare held fuel cs xs} hc hl h => ?_⟩
  match xs, hl with
  | [x], _ =>
    have h0 := h 0 f rfl
    rw [ho, he.sz, List.take_of_length_le (by rw [List.length_drop]; omega)] at h0
    obtain ⟨a, hK, hw, hb, hg⟩ := he.out h0
    refine ⟨a, hK, fun n hn => ?_, ?_, hg⟩
    · rcases hw n hn with h | ⟨m, hm, hle⟩
      · exact .inl h
      · refine .inr ⟨m, ?_, hle⟩
        simp only [List.map_cons, List.map_nil, DataW.weightsEach, List.append_nil]
        exact hm
    · simp only [List.map_cons, List.map_nil, Rows.uptoBulkAll]
      omega
theorem opensF_cons {f : Field} {fs : List Field} {off : Nat} {d : Kd α} {d' : Kd β} {Wt : α → List Nat} {Bk : α → Nat} {Gd : α → Prop} {Wt' : β → List Nat} {Bk' : β → Nat} {Gd' : β → Prop}
    (ho : f.offset = off) (he : Opens P f.type d Wt Bk Gd) (hr : OpensF P fs (off + d.sz) d' Wt' Bk' Gd') :
    OpensF P (f :: fs) off (Kd.pair d d') (fun x => Wt x.1 ++ Wt' x.2) (fun x => Bk x.1 + Bk' x.2) (fun x => Gd x.1 ∧ Gd' x.2) := by
  refine ⟨fun {H enc w base spare held fuel cs xs} hc hl h => ?_⟩
  have hsz : (Kd.pair d d').sz = d.sz + d'.sz := rfl
  rw [hsz] at hc
  match xs, hl with
  | x :: xs, hl =>
    have h0 := h 0 f rfl
    rw [ho, he.sz] at h0
    obtain ⟨a, hK, hw, hb, hg⟩ := he.out h0
    obtain ⟨b, hK', hw', hb', hg'⟩ := hr.out (enc := enc) (w := w) (base := base) (spare := spare) (held := held) (fuel := fuel) (cs := cs) (xs := xs) (by omega) (by simpa using hl) (fun i f' hf => by simpa using h (i + 1) f' (by simpa using hf))
    refine ⟨(a, b), ⟨(cs.drop off).take d.sz, cs.drop (off + d.sz), ?_, hK, hK'⟩, fun n hn => ?_, ?_, hg, hg'⟩
    · rw [← List.drop_drop, List.take_append_drop]
    · simp only [List.map_cons, DataW.weightsEach, List.mem_append]
      rcases List.mem_append.1 hn with hn | hn
      · rcases hw n hn with h | ⟨m, hm, hle⟩
        · exact .inl h
        · exact .inr ⟨m, .inl hm, hle⟩
      · rcases hw' n hn with h | ⟨m, hm, hle⟩
        · exact .inl h
        · exact .inr ⟨m, .inr hm, hle⟩
    · simp only [List.map_cons, Rows.uptoBulkAll]
      omega
theorem opens_struct {fs : Array Field} {d : Kd α} {Wt : α → List Nat} {Bk : α → Nat} {Gd : α → Prop} (ht : P.underlying t = some (.struct fs)) (hs : P.cellsOf t = d.sz) (he : OpensF P fs.toList 0 d Wt Bk Gd) :
    Opens P t d Wt (fun a => Bk a + 1) Gd := by
  refine ⟨hs, fun {H enc w base spare held fuel cs x} h => ?_⟩
  obtain ⟨xs, n, rfl, rfl, hl, hl2, hx⟩ := DataW.trod_struct ht h
  obtain ⟨a, hK, hw, hb, hg⟩ := he.out (enc := enc) (w := w) (base := base) (spare := spare) (held := held) (fuel := n) (cs := cs) (xs := xs) (by omega) (by simpa using hl2) (fun i f hf => hx i f (by simpa using hf))
  refine ⟨a, by simpa using hK, fun n hn => ?_, ?_, hg⟩
  · rcases hw n hn with h | ⟨m, hm, hle⟩
    · exact .inl h
    · refine .inr ⟨m, ?_, hle⟩
      show m ∈ (DataW.agg (xs.map (·.1))).weights P t
      rw [DataW.weights, ht]
      exact hm
  · show _ ≤ Rows.uptoBulk (DataW.agg (xs.map (·.1)))
    rw [Rows.uptoBulk]
    omega
theorem opens_iso {d : Kd α} {Wt : α → List Nat} {Bk : α → Nat} {Gd : α → Prop} (f : β → α) (g : α → β) (hfg : ∀ a, f (g a) = a) (h : Opens P t d Wt Bk Gd) : Opens P t (Kd.iso d f) (fun b => Wt (f b)) (fun b => Bk (f b)) (fun b => Gd (f b)) := by
  refine ⟨h.sz, fun {H enc w base spare held fuel cs x} hx => ?_⟩
  obtain ⟨a, hK, hw, hb, hg⟩ := h.out hx
  refine ⟨g a, ?_, ?_, ?_, ?_⟩
  · show d.K w (f (g a)) cs
    rw [hfg]; exact hK
  · rw [hfg]; exact hw
  · rw [hfg]; exact hb
  · rw [hfg]; exact hg

/-- At an argument: its weights are within the reach. -/
theorem arg {H : Type} {enc : TypeId × Value → H} {w : World} {base : Nat} {spare : Nat → Bool} {held : Bool} {v : Value} {dd : DataW H} {ps : List MemPlace} {d : Kd α} {Wt : α → List Nat} {Bk : α → Nat} {Gd : α → Prop} (h : Opens P t d Wt Bk Gd)
    (hx : DataW.Trod enc P w base spare held t v dd ps) : ∃ a, d.K w a v.cells.toList ∧ (∀ n ∈ Wt a, n = 0 ∨ ∃ m ∈ dd.weights P t, n ≤ m) ∧ Bk a ≤ Rows.uptoBulk dd ∧ Gd a := by
  obtain ⟨fuel, hf⟩ := hx
  obtain ⟨a, h1, h2, h3, h4⟩ := h.out hf
  exact ⟨a, h1, h2, h3, h4⟩
/-- Each weight of an argument is within the reach of the form. -/
theorem reach {H : Type} {ts : List TypeId} {ds : List (DataW H)} (h : (DataW.weightsEach P ts ds).all (· ≤ reachBytes) = true) {j : Nat} {t : TypeId} {dd : DataW H} (ht : ts[j]? = some t) (hd : ds[j]? = some dd) {l : List Nat}
    (hw : ∀ n ∈ l, n = 0 ∨ ∃ m ∈ dd.weights P t, n ≤ m) : ∀ n ∈ l, n ≤ 140737488351232 := by
  intro n hn
  rcases hw n hn with h0 | ⟨m, hm, hle⟩
  · omega
  · have := DataW.weights_mem_each ht hd m hm
    rw [List.all_eq_true] at h
    have h1 := of_decide_eq_true (h m this)
    unfold reachBytes at h1
    omega
end
end Go.Proofs.YtglhbbijoeeclaaDoor.Opens
/- Arrays of numbers, opened; SHA-256's tables out of the row's condition. -/
set_option linter.unusedVariables false
set_option linter.unusedSimpArgs false
namespace Go.Proofs.YtglhbbijoeeclaaDoor.Sha
open Go Go.RowKit Go.Proofs.YtglhbbijoeeclaaDoorW.PrintWords Go.Proofs.YtglhbbijoeeclaaDoor.Bytes

section
variable {H : Type} {enc : TypeId × Value → H} {P : Program} {w : World} {base : Nat} {spare : Nat → Bool} {held : Bool} {fuel : Nat} {t : TypeId} {cs : List Value} {x : DataW H × List MemPlace}
/-- An array of whole numbers: its cells, its data. -/
theorem open_ints {k : IntKind} {n : Nat} {e : TypeId} (ht : P.underlying t = some (.array n e)) (he : P.underlying e = some (.int k)) (hc : P.cellsOf e = 1) (hct : P.cellsOf t = n)
    (h : DataW.trod enc P w base spare held fuel t cs = some x) :
    ∃ l : List Int, l.length = n ∧ cs = l.map (fun i => Value.int k i) ∧ x = (.agg (l.map fun i => .lit (.int k i)), []) ∧ ∀ i ∈ l, (Lit.int k i).wf = true := by
  obtain ⟨xs, m, rfl, rfl, hl, hx, hr⟩ := DataW.trod_array ht h
  rw [hct] at hl
  have each : ∀ i, i < n → ∃ z : Int, cs[i]? = some (.int k z) ∧ xs[i]? = some (.lit (.int k z), []) ∧ (Lit.int k z).wf = true := by
    intro i hi
    have h2 := hr i hi
    rw [hc, Nat.mul_one, List.getElem?_eq_getElem (by omega), List.drop_eq_getElem_cons (by omega), List.take_succ_cons, List.take_zero] at h2
    obtain ⟨z, h3, h4, h5⟩ := DataW.trod_int he h2
    refine ⟨z, ?_, ?_, h5⟩
    · rw [List.getElem?_eq_getElem (by omega)]
      injection h3 with h3 _
      rw [h3]
    · rw [List.getElem?_eq_getElem (by omega), h4]
  obtain ⟨l, hll, hla⟩ := Opens.list_of n each
  have at_ : ∀ i, i < n → ∃ z, l[i]? = some z ∧ cs[i]? = some (.int k z) ∧ xs[i]? = some (.lit (.int k z), []) := fun i hi => by
    have := List.getElem?_eq_getElem (l := l) (i := i) (by omega)
    exact ⟨l[i], this, (hla i _ this).1, (hla i _ this).2.1⟩
  have e1 : cs = l.map (fun i => Value.int k i) := by
    refine List.ext_getElem? fun i => ?_
    rw [List.getElem?_map]
    by_cases hi : i < n
    · obtain ⟨z, h1, h2, _⟩ := at_ i hi
      rw [h1, h2]; rfl
    · rw [List.getElem?_eq_none (by omega), List.getElem?_eq_none (by omega)]; rfl
  have e2 : xs = l.map (fun i => ((.lit (.int k i), []) : DataW H × List MemPlace)) := by
    refine List.ext_getElem? fun i => ?_
    rw [List.getElem?_map]
    by_cases hi : i < n
    · obtain ⟨z, h1, _, h3⟩ := at_ i hi
      rw [h1, h3]; rfl
    · rw [List.getElem?_eq_none (by omega), List.getElem?_eq_none (by omega)]; rfl
  refine ⟨l, hll, e1, ?_, fun i hi => ?_⟩
  · rw [e2, List.map_map]
    congr 1
    clear e2 e1 at_ hla hll
    induction l with
    | nil => rfl
    | cons a l ih => rw [List.map_cons, List.flatMap_cons, ih]; rfl
  · obtain ⟨j, hj⟩ := List.getElem?_of_mem hi
    exact (hla j i hj).2.2
end
/-- Numbers within a byte's range are bytes. -/
theorem bytes_of (l : List Int) (h : ∀ i ∈ l, (Lit.int .u8 i).wf = true) : ∃ d : List UInt8, l = d.map B := by
  refine ⟨l.map fun i => UInt8.ofNat i.toNat, ?_⟩
  rw [List.map_map]
  conv => lhs; rw [← List.map_id l]
  refine List.map_congr_left fun i hi => ?_
  have := bounds_u8 (h i hi)
  show i = ((UInt8.ofNat i.toNat).toNat : Int)
  rw [UInt8.toNat_ofNat']
  omega
theorem lits_inj {k : IntKind} {a b : List Int} (h : (DataW.agg (a.map fun i => .lit (.int k i)) : DataW Unit) = .agg (b.map fun i => .lit (.int k i))) : a = b := by
  injection h with h
  have hinj : Function.Injective (fun i : Int => (DataW.lit (.int k i) : DataW Unit)) := fun x y hxy => by injection hxy with hxy; injection hxy
  exact List.map_inj_right (fun x y hxy => hinj hxy) |>.1 h
theorem rounds_data : (Rows.laid_depot_sha_rounds : DataW Unit) = .agg ((K.map U).map fun i => .lit (.int .u32 i)) := by kernel_rfl
theorem start_data : (Rows.laid_depot_sha_start : DataW Unit) = .agg (([H0.a, H0.b, H0.c, H0.d, H0.e, H0.f, H0.g, H0.k].map U).map fun i => .lit (.int .u32 i)) := by kernel_rfl
theorem gType0 : (Tryd.prog.globals[0]?).map (·.type) = some 70 := by kernel_rfl
theorem gType1 : (Tryd.prog.globals[1]?).map (·.type) = some 85 := by kernel_rfl
/-- One listed table, in the heap. -/
theorem table {w : World} {nm : String} {g n : Nat} {tt e : TypeId} {ws : List Int} {d : DataW Unit} {t : TypeId} {cs : Array Value} {fuel gg : Nat} {p ps : List MemPlace} (hg : Tryd.prog.globalNamed nm = some g) (hgt : (Tryd.prog.globals[g]?).map (·.type) = some tt)
    (htu : Tryd.prog.underlying tt = some (.array n e)) (heu : Tryd.prog.underlying e = some (.int .u32)) (hce : Tryd.prog.cellsOf e = 1) (hct : Tryd.prog.cellsOf tt = n) (hn : 0 < n) (hd : d = .agg (ws.map fun i => .lit (.int .u32 i)))
    (h1 : Tryd.prog.globalNamed nm = some gg) (h2 : (Tryd.prog.globals[gg]?).map (·.type) = some t) (h3 : w.var? Tryd.prog nm = some cs) (h4 : DataW.trod (fun _ => ()) Tryd.prog w 0 (fun _ => true) false fuel t cs.toList = some (d, p))
    (hp : ∀ off, off < cs.size → MemPlace.cell g off ∈ ps) (hall : ∀ b off, MemPlace.cell b off ∈ ps → (∃ c t, w.heap[b]? = some (.cells c t (0, 0)))) :
    ∃ t, w.heap[g]? = some (.cells (ws.map fun i => Value.int .u32 i).toArray t (0, 0)) := by
  rw [hg] at h1
  injection h1 with h1
  subst h1
  rw [hgt] at h2
  injection h2 with h2
  subst h2
  obtain ⟨l, hll, hcs, hx, _⟩ := open_ints htu heu hce hct h4
  injection hx with hx _
  rw [hd] at hx
  have := lits_inj hx
  subst this
  have hsz : cs.size = n := by rw [← Array.length_toList, hcs, List.length_map, hll]
  obtain ⟨c, t, hc⟩ := hall g 0 (hp 0 (by omega))
  unfold World.var? at h3
  rw [hg] at h3
  have h3' : (match w.heap[g]? with | some (.cells cs _ _) => some cs | _ => none) = some cs := h3
  rw [hc] at h3'
  injection h3' with h3'
  subst h3'
  refine ⟨t, ?_⟩
  rw [hc]
  congr 2
  exact Array.toList_inj.1 hcs
theorem row_mem (g : Nat) (n : Nat) : ∀ off, off < n → MemPlace.cell g off ∈ MemPlace.row ⟨g, 0, none⟩ n := by
  intro off h
  unfold MemPlace.row
  refine List.mem_map.2 ⟨off, List.mem_range.2 h, ?_⟩
  simp [Addr.add]
/-- The row's condition gives the tables. -/
theorem glob_of {w : World} (h : laidMetH Tryd.prog Door.laid2 w) : Glob w := by
  have h' : laidMet Tryd.prog Door.laid2 w := h
  obtain ⟨ps, ⟨g1, t1, cs1, fuel1, p1, q1, a1, b1, c1, d1, ⟨g2, t2, cs2, fuel2, p2, q2, a2, b2, c2, d2, hq2, rfl⟩, rfl⟩, _, hall⟩ := h'
  have e1 : g1 = 1 := Option.some.inj (a1.symm.trans Door.gRounds)
  have e2 : g2 = 0 := Option.some.inj (a2.symm.trans Door.gStart)
  have r1 := table (n := 64) (e := 69) (ws := K.map U) Door.gRounds gType1 Tryd.underlying85 Tryd.underlying69 (by kernel_rfl) (by kernel_rfl) (by omega) rounds_data a1 b1 c1 d1 (fun off ho => by
    subst e1
    exact List.mem_append_left _ (List.mem_append_left _ (row_mem _ _ off ho))) (fun b off hb => (hall b off hb).1)
  have r2 := table (n := 8) (e := 69) (ws := [H0.a, H0.b, H0.c, H0.d, H0.e, H0.f, H0.g, H0.k].map U) Door.gStart gType0 Tryd.underlying70 Tryd.underlying69 (by kernel_rfl) (by kernel_rfl) (by omega) start_data a2 b2 c2 d2 (fun off ho => by
    subst e2
    exact List.mem_append_right _ (List.mem_append_left _ (List.mem_append_left _ (row_mem _ _ off ho)))) (fun b off hb => (hall b off hb).1)
  refine ⟨?_, ?_⟩
  · obtain ⟨t, ht⟩ := r1
    exact ⟨t, by rw [ht, List.map_map]; rfl⟩
  · obtain ⟨t, ht⟩ := r2
    exact ⟨t, ht⟩
end Go.Proofs.YtglhbbijoeeclaaDoor.Sha
