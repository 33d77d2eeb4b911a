/- SHA-256 as plain Lean: words of 32 bits; the program's way. -/
import Derived.Test.YtdjhhljijpadoaaDoorBytes
set_option linter.unusedVariables false
set_option linter.unusedSimpArgs false
namespace Go.Proofs.YtdjhhljijpadoaaDoor.Sha
open Go.Proofs.YtdjhhljijpadoaaDoor.Bytes

abbrev B32 := BitVec 32
/-- A word turned to the right. -/
def rotr (x : B32) (n : Nat) : B32 := x >>> n ||| x <<< (32 - n)
/-- The eight words in work. -/
structure V8 where
  a : B32
  b : B32
  c : B32
  d : B32
  e : B32
  f : B32
  g : B32
  k : B32
/-- The round constants. -/
def K : List B32 := [0x428a2f98#32, 0x71374491#32, 0xb5c0fbcf#32, 0xe9b5dba5#32, 0x3956c25b#32, 0x59f111f1#32, 0x923f82a4#32, 0xab1c5ed5#32, 0xd807aa98#32, 0x12835b01#32, 0x243185be#32, 0x550c7dc3#32, 0x72be5d74#32, 0x80deb1fe#32, 0x9bdc06a7#32, 0xc19bf174#32, 0xe49b69c1#32, 0xefbe4786#32, 0x0fc19dc6#32, 0x240ca1cc#32, 0x2de92c6f#32, 0x4a7484aa#32, 0x5cb0a9dc#32, 0x76f988da#32, 0x983e5152#32, 0xa831c66d#32, 0xb00327c8#32, 0xbf597fc7#32, 0xc6e00bf3#32, 0xd5a79147#32, 0x06ca6351#32, 0x14292967#32, 0x27b70a85#32, 0x2e1b2138#32, 0x4d2c6dfc#32, 0x53380d13#32, 0x650a7354#32, 0x766a0abb#32, 0x81c2c92e#32, 0x92722c85#32, 0xa2bfe8a1#32, 0xa81a664b#32, 0xc24b8b70#32, 0xc76c51a3#32, 0xd192e819#32, 0xd6990624#32, 0xf40e3585#32, 0x106aa070#32, 0x19a4c116#32, 0x1e376c08#32, 0x2748774c#32, 0x34b0bcb5#32, 0x391c0cb3#32, 0x4ed8aa4a#32, 0x5b9cca4f#32, 0x682e6ff3#32, 0x748f82ee#32, 0x78a5636f#32, 0x84c87814#32, 0x8cc70208#32, 0x90befffa#32, 0xa4506ceb#32, 0xbef9a3f7#32, 0xc67178f2#32]
/-- The words with which a digest begins. -/
def H0 : V8 := ⟨0x6a09e667#32, 0xbb67ae85#32, 0x3c6ef372#32, 0xa54ff53a#32, 0x510e527f#32, 0x9b05688c#32, 0x1f83d9ab#32, 0x5be0cd19#32⟩
/-- A round. -/
def round (v : V8) (c w : B32) : V8 :=
  let s1 := rotr v.e 6 ^^^ rotr v.e 11 ^^^ rotr v.e 25
  let t1 := v.k + s1 + (v.e &&& v.f ^^^ (~~~v.e &&& v.g)) + c + w
  let s0 := rotr v.a 2 ^^^ rotr v.a 13 ^^^ rotr v.a 22
  let t2 := s0 + (v.a &&& v.b ^^^ v.a &&& v.c ^^^ v.b &&& v.c)
  ⟨t1 + t2, v.a, v.b, v.c, v.d + t1, v.e, v.f, v.g⟩
/-- Four bytes, the first the highest. -/
def be (a b c d : UInt8) : B32 := (BitVec.ofNat 32 a.toNat) <<< 24 ||| (BitVec.ofNat 32 b.toNat) <<< 16 ||| (BitVec.ofNat 32 c.toNat) <<< 8 ||| BitVec.ofNat 32 d.toNat
def wordAt (b : List UInt8) (i : Nat) : B32 := be (b.getD (4 * i) 0) (b.getD (4 * i + 1) 0) (b.getD (4 * i + 2) 0) (b.getD (4 * i + 3) 0)
/-- The first words of a block. -/
def first (b : List UInt8) : Nat → List B32
  | 0 => []
  | n + 1 => first b n ++ [wordAt b n]
/-- The next word. -/
def next (l : List B32) : B32 :=
  let x := l.getD (l.length - 15) 0
  let y := l.getD (l.length - 2) 0
  l.getD (l.length - 16) 0 + (rotr x 7 ^^^ rotr x 18 ^^^ x >>> 3) + l.getD (l.length - 7) 0 + (rotr y 17 ^^^ rotr y 19 ^^^ y >>> 10)
def more (b : List UInt8) : Nat → List B32
  | 0 => first b 16
  | n + 1 => more b n ++ [next (more b n)]
/-- The schedule. -/
def sched (b : List UInt8) : List B32 := more b 48
def rounds (w : List B32) (v : V8) : Nat → V8
  | 0 => v
  | n + 1 => round (rounds w v n) (K.getD n 0) (w.getD n 0)
def vadd (h v : V8) : V8 := ⟨h.a + v.a, h.b + v.b, h.c + v.c, h.d + v.d, h.e + v.e, h.f + v.f, h.g + v.g, h.k + v.k⟩
/-- The words behind one block. -/
def block (h : V8) (b : List UInt8) : V8 := vadd h (rounds (sched b) h 64)
/-- All whole blocks. -/
def blocks (h : V8) (l : List UInt8) : V8 := if _ : 64 ≤ l.length then blocks (block h (l.take 64)) (l.drop 64) else h
termination_by l.length
decreasing_by rw [List.length_drop]; omega
theorem first_len (b : List UInt8) : ∀ n, (first b n).length = n
  | 0 => rfl
  | n + 1 => by rw [first, List.length_append, first_len b n]; rfl
theorem more_len (b : List UInt8) : ∀ n, (more b n).length = 16 + n
  | 0 => first_len b 16
  | n + 1 => by rw [more, List.length_append, more_len b n]; rfl
theorem sched_len (b : List UInt8) : (sched b).length = 64 := more_len b 48
theorem blocks_few (h : V8) (l : List UInt8) (hl : l.length < 64) : blocks h l = h := by rw [blocks, dif_neg (by omega)]
theorem blocks_more (h : V8) (a l : List UInt8) (ha : a.length = 64) : blocks h (a ++ l) = blocks (block h a) l := by
  rw [blocks, dif_pos (by rw [List.length_append]; omega), List.take_left' ha, List.drop_left' ha]
/-- Blocks, and one more behind them. -/
theorem blocks_end (h : V8) (l a : List UInt8) (hl : l.length % 64 = 0) (ha : a.length = 64) : blocks h (l ++ a) = block (blocks h l) a := by
  induction hn : l.length using Nat.strongRecOn generalizing h l with
  | ind n ih =>
    by_cases h0 : l.length < 64
    · have : l = [] := List.eq_nil_of_length_eq_zero (by omega)
      subst this
      rw [List.nil_append, blocks_few h [] (by simp), ← List.append_nil a, blocks_more h a [] ha, blocks_few _ [] (by simp), List.append_nil]
    · have e : l = l.take 64 ++ l.drop 64 := (List.take_append_drop 64 l).symm
      have ht : (l.take 64).length = 64 := by rw [List.length_take]; omega
      have hd : (l.drop 64).length = l.length - 64 := List.length_drop
      have r := ih (l.length - 64) (by omega) (block h (l.take 64)) (l.drop 64) (by rw [hd]; omega) hd
      rw [e, List.append_assoc, blocks_more h _ _ ht, blocks_more h _ _ ht]
      exact r
/-- What is put behind a message of n bytes. -/
def pad (n : Nat) : List UInt8 := 128 :: (List.replicate ((119 - n % 64) % 64) 0 ++ [(n * 8 / 72057594037927936).toUInt8, (n * 8 / 281474976710656).toUInt8, (n * 8 / 1099511627776).toUInt8, (n * 8 / 4294967296).toUInt8, (n * 8 / 16777216).toUInt8, (n * 8 / 65536).toUInt8, (n * 8 / 256).toUInt8, (n * 8).toUInt8])
theorem pad_len (n : Nat) : (pad n).length = (119 - n % 64) % 64 + 9 := by simp [pad]
theorem pad_whole (n : Nat) : (n + (pad n).length) % 64 = 0 := by rw [pad_len]; omega
/-- Four bytes of a word. -/
def bytes4 (x : B32) : List UInt8 := [(x >>> 24).toNat.toUInt8, (x >>> 16).toNat.toUInt8, (x >>> 8).toNat.toUInt8, x.toNat.toUInt8]
def V8.words (v : V8) : List B32 := [v.a, v.b, v.c, v.d, v.e, v.f, v.g, v.k]
def digest (v : V8) : List UInt8 := v.words.flatMap bytes4
/-- The digest of a text. -/
def of (l : List UInt8) : List UInt8 := digest (blocks H0 (l ++ pad l.length))
theorem of_len (l : List UInt8) : (of l).length = 32 := rfl
end Go.Proofs.YtdjhhljijpadoaaDoor.Sha
