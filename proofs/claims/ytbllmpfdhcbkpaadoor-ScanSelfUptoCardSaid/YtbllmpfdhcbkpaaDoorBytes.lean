/- Plain lemmas on strings as lists of bytes; no program in sight. -/
import Derived.Test.YtbllmpfdhcbkpaaDoorWWords
import Derived.Test.YtbllmpfdhcbkpaaDoorWLast
import Derived.Lib.SmallJoins
set_option linter.unusedVariables false
set_option linter.unusedSimpArgs false
namespace Go.Proofs.YtbllmpfdhcbkpaaDoor.Bytes
open Go.RowKit Go.Proofs.YtbllmpfdhcbkpaaDoorW.PrintWords

/-- The bytes of a string. -/
def bs (s : ByteArray) : List UInt8 := s.data.toList
theorem toList_bs (s : ByteArray) : s.toList = bs s := ByteArray.toList_eq s
theorem size_bs (s : ByteArray) : s.size = (bs s).length := by
  simp only [bs, Array.length_toList]
  rfl
theorem bs_append (a b : ByteArray) : bs (a ++ b) = bs a ++ bs b := by
  obtain ⟨a⟩ := a
  obtain ⟨b⟩ := b
  rw [bs, ByteArray.mk_append_mk]
  simp [bs]
theorem bs_extract (s : ByteArray) (i j : Nat) : bs (s.extract i j) = ((bs s).drop i).take (j - i) := by
  simp [bs, ByteArray.data_extract, Array.toList_extract, List.extract]
theorem bs_mk (l : List UInt8) : bs ⟨l.toArray⟩ = l := by simp [bs]
theorem bs_inj {a b : ByteArray} (h : bs a = bs b) : a = b := by
  obtain ⟨a⟩ := a
  obtain ⟨b⟩ := b
  simp only [bs] at h
  congr 1
  exact Array.toList_inj.1 h
theorem bs_eq_iff (a b : ByteArray) : bs a = bs b ↔ a = b := ⟨bs_inj, fun h => by rw [h]⟩
/-- Byte i, as a number; 0 outside. -/
theorem bt_bs (s : ByteArray) (i : Int) : bt s i = (((bs s).getD i.toNat 0).toNat : Int) := by
  unfold bt
  split
  · rename_i h
    have h' : i.toNat < (bs s).length := by rw [← size_bs]; exact h
    rw [List.getD_eq_getElem?_getD, List.getElem?_eq_getElem h']
    simp only [Option.getD_some]
    rfl
  · rename_i h
    have h' : (bs s).length ≤ i.toNat := by rw [← size_bs]; omega
    rw [List.getD_eq_getElem?_getD, List.getElem?_eq_none h']
    rfl
theorem w64 {x : Int} (h0 : -9223372036854775808 ≤ x) (h1 : x ≤ 9223372036854775807) : wrap64 x = x := by
  unfold wrap64
  omega
theorem byte_eq_iff (x y : UInt8) : ((x.toNat : Int) = (y.toNat : Int)) ↔ x = y := by
  constructor
  · intro h
    exact UInt8.toNat_inj.1 (by omega)
  · intro h
    rw [h]
end Go.Proofs.YtbllmpfdhcbkpaaDoor.Bytes
