/- (*strings.Builder).WriteByte and WriteString by the library's own contracts. -/
import Derived.Test.YtdkkgeibifpgiaaShelf
import Derived.Shelf.Strings.BuilderK
set_option maxRecDepth 100000
namespace Go.Proofs
open Go.Shelf Go.RowKit
def Try.byhand167_ren : Go.Shelf.Ren := ⟨fun | 167 => 37 | 240 => 42 | 276 => 45 | n => n, fun | 0 => 0 | 4 => 4 | 5 => 5 | 9 => 9 | 20 => 20 | 37 => 74 | 70 => 73 | 72 => 76 | 75 => 28 | 80 => 54 | 164 => 83 | n => n, fun | n => n⟩
theorem Try.byhand167 : Go.Proofs.Lays.n167 Try.prog Try.byhand167_ren := {
  mixed := by kernel_rfl
  f167 := Try.func37.trans (congrArg some (by kernel_rfl))
  f240 := Try.func42.trans (congrArg some (by kernel_rfl))
  f276 := Try.func45.trans (congrArg some (by kernel_rfl))
  t0 := Try.underlying0
  a0 := Try.isAgg0
  z0 := Try.sizeOf0
  v0 := Try.zeroValue0
  t4 := Try.underlying4
  a4 := Try.isAgg4
  z4 := Try.sizeOf4
  v4 := Try.zeroValue4
  t5 := Try.underlying5
  a5 := Try.isAgg5
  z5 := Try.sizeOf5
  v5 := Try.zeroValue5
  t9 := Try.underlying9
  a9 := Try.isAgg9
  z9 := Try.sizeOf9
  v9 := Try.zeroValue9
  t20 := Try.underlying20
  a20 := Try.isAgg20
  z20 := Try.sizeOf20
  v20 := Try.zeroValue20
  t37 := Try.underlying74
  a37 := Try.isAgg74
  z37 := Try.sizeOf74
  v37 := Try.zeroValue74
  t70 := Try.underlying73
  a70 := Try.isAgg73
  z70 := Try.sizeOf73
  v70 := Try.zeroValue73
  t72 := Try.underlying76
  a72 := Try.isAgg76
  z72 := Try.sizeOf76
  v72 := Try.zeroValue76
  t75 := Try.underlying28
  a75 := Try.isAgg28
  z75 := Try.sizeOf28
  v75 := Try.zeroValue28
  t164 := Try.underlying83
  a164 := Try.isAgg83
  z164 := Try.sizeOf83
  v164 := Try.zeroValue83 }
theorem Try.byhandX167 : Builder.Extra Try.prog Try.byhand167_ren := {
  sizeBuilder := by kernel_rfl
  liesBuilder := by kernel_rfl
  t5 := Try.underlying5
  a5 := Try.isAgg5
  z5 := Try.sizeOf5
  v5 := Try.zeroValue5
  infoByte := by kernel_rfl
  cellsByte := by kernel_rfl
  sizeByte := by kernel_rfl
  neB5 := by decide }
theorem Try.WriteByte_k (B b : Nat) (bs : List Value) (c : Int) (w : World) (h : Lib.IsBuilderF 76 5 B b bs w) (hlen : bs.length + 1 ≤ 140737488355328) (hBw : B ≤ w.heap.size) :
    Calls Try.prog 37 #[.pointer (some ⟨b, 0, none⟩), .int .u8 c] w fun e w' => e = .returned .nilIface ∧ (Lib.BuilderAtF 76 5 B b (.pointer (some ⟨b, 0, none⟩)) (bs ++ [.int .u8 c]) w' ∧ Below B w w' ∧ Lib.OthersKept 5 (some b) w w') := Any.Builder_WriteByte_k Try.byhand167 Try.byhandX167 B b bs c w h hlen hBw
def Try.byhand166_ren : Go.Shelf.Ren := ⟨fun | 166 => 39 | 240 => 42 | 276 => 45 | n => n, fun | 0 => 0 | 3 => 3 | 4 => 4 | 5 => 5 | 9 => 9 | 20 => 20 | 37 => 74 | 70 => 73 | 72 => 76 | 75 => 28 | 80 => 54 | 164 => 83 | n => n, fun | n => n⟩
theorem Try.byhand166 : Go.Proofs.Lays.n166 Try.prog Try.byhand166_ren := {
  mixed := by kernel_rfl
  f166 := Try.func39.trans (congrArg some (by kernel_rfl))
  f240 := Try.func42.trans (congrArg some (by kernel_rfl))
  f276 := Try.func45.trans (congrArg some (by kernel_rfl))
  t0 := Try.underlying0
  a0 := Try.isAgg0
  z0 := Try.sizeOf0
  v0 := Try.zeroValue0
  t3 := Try.underlying3
  a3 := Try.isAgg3
  z3 := Try.sizeOf3
  v3 := Try.zeroValue3
  t4 := Try.underlying4
  a4 := Try.isAgg4
  z4 := Try.sizeOf4
  v4 := Try.zeroValue4
  t9 := Try.underlying9
  a9 := Try.isAgg9
  z9 := Try.sizeOf9
  v9 := Try.zeroValue9
  t20 := Try.underlying20
  a20 := Try.isAgg20
  z20 := Try.sizeOf20
  v20 := Try.zeroValue20
  t37 := Try.underlying74
  a37 := Try.isAgg74
  z37 := Try.sizeOf74
  v37 := Try.zeroValue74
  t70 := Try.underlying73
  a70 := Try.isAgg73
  z70 := Try.sizeOf73
  v70 := Try.zeroValue73
  t72 := Try.underlying76
  a72 := Try.isAgg76
  z72 := Try.sizeOf76
  v72 := Try.zeroValue76
  t75 := Try.underlying28
  a75 := Try.isAgg28
  z75 := Try.sizeOf28
  v75 := Try.zeroValue28
  t164 := Try.underlying83
  a164 := Try.isAgg83
  z164 := Try.sizeOf83
  v164 := Try.zeroValue83 }
theorem Try.byhandX166 : Builder.Extra Try.prog Try.byhand166_ren := {
  sizeBuilder := by kernel_rfl
  liesBuilder := by kernel_rfl
  t5 := Try.underlying5
  a5 := Try.isAgg5
  z5 := Try.sizeOf5
  v5 := Try.zeroValue5
  infoByte := by kernel_rfl
  cellsByte := by kernel_rfl
  sizeByte := by kernel_rfl
  neB5 := by decide }
theorem Try.WriteString_k (B b : Nat) (bs : List Value) (s : ByteArray) (w : World) (h : Lib.IsBuilderF 76 5 B b bs w) (hlen : bs.length + s.size ≤ 140737488355328) (hBw : B ≤ w.heap.size) :
    Calls Try.prog 39 #[.pointer (some ⟨b, 0, none⟩), .string s] w fun e w' => e = .returned (.tuple #[.int .i64 s.size, .nilIface]) ∧ (Lib.BuilderAtF 76 5 B b (.pointer (some ⟨b, 0, none⟩)) (bs ++ Lib.strCells s) w' ∧ Below B w w' ∧ Lib.OthersKept 5 (some b) w w') := Any.Builder_WriteString_k Try.byhand166 Try.byhandX166 B b bs s w h hlen hBw
end Go.Proofs
