/- SHA-256: words and bytes as Go's numbers. -/
import Derived.Test.YtdjhhljijpadoaaDoorSha
import Derived.Test.YtdjhhljijpadoaaDoorProg
import Derived.Test.YtdjhhljijpadoaaDoorWMore
import Derived.Test.YtdjhhljijpadoaaDoorKit
import Derived.WalkKit
import Derived.Laws.BitsLemmas
import Derived.Deep.QuietTactic
import Derived.BigQuiet
namespace Go.Proofs.YtdjhhljijpadoaaDoor.Sha
open Go.RowKit Go.Proofs.YtdjhhljijpadoaaDoorW.PrintWords Go.Proofs.YtdjhhljijpadoaaDoorW.PrintLast Go.Proofs.YtdjhhljijpadoaaDoorW.PrintMore Go.Proofs.YtdjhhljijpadoaaDoor.Bytes
set_option linter.unusedVariables false
set_option linter.unusedSimpArgs false

/-- A word, a byte, as Go's numbers. -/
def U (x : B32) : Int := (x.toNat : Int)
def B (b : UInt8) : Int := (b.toNat : Int)
theorem U_lt (x : B32) : 0 ≤ U x ∧ U x < 4294967296 := by
  unfold U
  have := x.isLt
  omega
theorem wrap_U (x : B32) : IntKind.u32.wrap ((x.toNat : Nat) : Int) = U x := by
  rw [IntKind.wrap_u32]
  unfold U
  have := x.isLt
  omega
theorem ofInt_U (x : B32) : BitVec.ofInt 32 (U x) = x := by
  unfold U
  rw [BitVec.ofInt_natCast, BitVec.ofNat_toNat, BitVec.setWidth_eq]
theorem U_xor (x y : B32) : bits .xor .u32 (U x) (U y) = U (x ^^^ y) := by
  show IntKind.u32.wrap (((BitVec.ofInt 32 (U x) ^^^ BitVec.ofInt 32 (U y)).toNat : Nat) : Int) = _
  rw [ofInt_U, ofInt_U, wrap_U]
theorem U_and (x y : B32) : bits .and .u32 (U x) (U y) = U (x &&& y) := by
  show IntKind.u32.wrap (((BitVec.ofInt 32 (U x) &&& BitVec.ofInt 32 (U y)).toNat : Nat) : Int) = _
  rw [ofInt_U, ofInt_U, wrap_U]
theorem U_or (x y : B32) : bits .or .u32 (U x) (U y) = U (x ||| y) := by
  show IntKind.u32.wrap (((BitVec.ofInt 32 (U x) ||| BitVec.ofInt 32 (U y)).toNat : Nat) : Int) = _
  rw [ofInt_U, ofInt_U, wrap_U]
theorem U_add (x y : B32) : IntKind.u32.wrap (U x + U y) = U (x + y) := by
  rw [IntKind.wrap_u32]
  unfold U
  rw [BitVec.toNat_add]
  omega
theorem U_add' (x y : B32) : (U x + U y) % 4294967296 = U (x + y) := by
  unfold U
  rw [BitVec.toNat_add]
  omega
theorem U_shr (x : B32) (n : Nat) : U x / 2 ^ n = U (x >>> n) := by
  unfold U
  rw [BitVec.toNat_ushiftRight, Nat.shiftRight_eq_div_pow, Int.natCast_ediv, Int.natCast_pow]
  rfl
theorem U_shl (x : B32) (n : Nat) : U x * 2 ^ n % 4294967296 = U (x <<< n) := by
  unfold U
  rw [BitVec.toNat_shiftLeft, Nat.shiftLeft_eq, Int.natCast_emod, Int.natCast_mul, Int.natCast_pow]
  rfl
theorem U_shr3 (x : B32) : U x / (8 : Int) = U (x >>> (3 : Nat)) := U_shr x 3
theorem U_shr8 (x : B32) : U x / (256 : Int) = U (x >>> (8 : Nat)) := U_shr x 8
theorem U_shr10 (x : B32) : U x / (1024 : Int) = U (x >>> (10 : Nat)) := U_shr x 10
theorem U_shr16 (x : B32) : U x / (65536 : Int) = U (x >>> (16 : Nat)) := U_shr x 16
theorem U_shr24 (x : B32) : U x / (16777216 : Int) = U (x >>> (24 : Nat)) := U_shr x 24
theorem U_shl8 (x : B32) : U x * (256 : Int) % (4294967296 : Int) = U (x <<< (8 : Nat)) := U_shl x 8
theorem U_shl16 (x : B32) : U x * (65536 : Int) % (4294967296 : Int) = U (x <<< (16 : Nat)) := U_shl x 16
theorem U_shl24 (x : B32) : U x * (16777216 : Int) % (4294967296 : Int) = U (x <<< (24 : Nat)) := U_shl x 24
theorem U_shl8w (x : B32) : IntKind.u32.wrap (U x * (256 : Int)) = U (x <<< (8 : Nat)) := by rw [IntKind.wrap_u32]; exact U_shl8 x
theorem U_shl16w (x : B32) : IntKind.u32.wrap (U x * (65536 : Int)) = U (x <<< (16 : Nat)) := by rw [IntKind.wrap_u32]; exact U_shl16 x
theorem U_shl24w (x : B32) : IntKind.u32.wrap (U x * (16777216 : Int)) = U (x <<< (24 : Nat)) := by rw [IntKind.wrap_u32]; exact U_shl24 x
theorem B_lt (b : UInt8) : 0 ≤ B b ∧ B b < 256 := by
  unfold B
  have := b.toNat_lt
  omega
theorem B_wide (b : UInt8) : B b % 4294967296 = U (BitVec.ofNat 32 b.toNat) := by
  unfold B U
  rw [BitVec.toNat_ofNat]
  have := b.toNat_lt
  omega
theorem B_wide' (b : UInt8) : IntKind.u32.wrap (B b) = U (BitVec.ofNat 32 b.toNat) := by rw [IntKind.wrap_u32, B_wide]
theorem U_byte (x : B32) : U x % 256 = B x.toNat.toUInt8 := by
  unfold U B
  rw [UInt8.toNat_ofNat']
  omega
theorem U_byte' (x : B32) : IntKind.u8.wrap (U x) = B x.toNat.toUInt8 := by rw [IntKind.wrap_u8, U_byte]
theorem U_not (x : B32) : bits .xor .u32 4294967295 (U x) = U (~~~x) := by
  have h : (4294967295 : Int) = U (BitVec.allOnes 32) := by decide
  rw [h, U_xor, BitVec.allOnes_xor]
theorem u32_signed : IntKind.u32.signed = false := rfl
theorem u32_max : IntKind.u32.max = 4294967295 := by decide
set_option maxRecDepth 100000 in
set_option maxHeartbeats 2000000 in
theorem right_calls (x : B32) (n : Nat) (h0 : 0 < n) (hn : n < 32) (w : World) : Calls Tryd.prog 53 #[.int .u32 (U x), .int .u64 (n : Int)] w fun e w' => e = .returned (.int .u32 (U (rotr x n))) ∧ w' = w := by
  have p1 : 0 ≤ (n : Int) := by omega
  have p2 : (n : Int) ≤ 32 := by omega
  go_enter Tryd.func53, Tryd.ntmps53
  go_wp2
  go_ret
  exact ⟨by rw [U_shr, U_shl, U_or]; rfl, rfl⟩
end Go.Proofs.YtdjhhljijpadoaaDoor.Sha
