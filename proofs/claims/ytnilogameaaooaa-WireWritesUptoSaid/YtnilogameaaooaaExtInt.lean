/- wire.Int, walked by hand: eight bytes into an array, and the array's text. -/
import Derived.Test.YtnilogameaaooaaQ0
import Derived.Test.YtnilogameaaooaaBytes
import Derived.Test.YtnilogameaaooaaKit
import Derived.WalkMore
namespace Go.Proofs.Ytnilogameaaooaa.Q
open Go.RowKit Go.Proofs.YtnilogameaaooaaW.PrintWords Go.Proofs.YtnilogameaaooaaW.PrintLast Go.Proofs.YtnilogameaaooaaW.PrintMore Go.Proofs.Ytnilogameaaooaa.Bytes
set_option linter.unusedVariables false
set_option linter.unusedSimpArgs false

/-- The eight bytes of a number, the lowest first. -/
def le8 (n : Int) : List Int := (List.range 8).map fun j => n / 2 ^ (8 * j) % 256
def wire_Int.f (a0 : Int) : Option (ByteArray) := some (strOfNums (le8 a0))
/-- The array behind i rounds. -/
def row8 (n : Int) (i : Nat) : List Int := (List.range 8).map fun j => if j < i then n / 2 ^ (8 * j) % 256 else 0
theorem row8_len (n : Int) (i : Nat) : (row8 n i).length = 8 := by simp [row8]
theorem row8_set (n : Int) (i : Nat) (hi : i < 8) : (row8 n i).set i (n / 2 ^ (8 * i) % 256) = row8 n (i + 1) := by
  apply List.ext_getElem
  · simp [row8]
  · intro j h1 h2
    rw [List.getElem_set]
    simp only [row8, List.getElem_map, List.getElem_range]
    by_cases e : i = j
    · subst e
      rw [if_pos rfl, if_pos (Nat.lt_succ_self _)]
    · rw [if_neg e]
      by_cases q : j < i
      · rw [if_pos q, if_pos (by omega)]
      · rw [if_neg q, if_neg (by omega)]
theorem row8_all (n : Int) : row8 n 8 = le8 n := by
  apply List.ext_getElem
  · simp [row8, le8]
  · intro j h1 h2
    simp only [row8, le8, List.getElem_map, List.getElem_range]
    rw [if_pos (by simpa [row8] using h1)]
/-- The world with the array. -/
def w8 (w : World) (e : TypeId) (n : Int) (i : Nat) : World := w.alloc (.cells (nums .u8 (row8 n i)).toArray e)
theorem w8_heap (w : World) (e : TypeId) (n : Int) (i : Nat) : (w8 w e n i).heap[w.heap.size]? = some (.cells (nums .u8 (row8 n i)).toArray e (0, 0)) := heap_alloc_new w _
theorem w8_size (n : Int) (i : Nat) : (nums .u8 (row8 n i)).length = 8 := by simp [nums, row8_len]
theorem w8_set (w : World) (e : TypeId) (n : Int) (i : Nat) (hi : i < 8) : (w8 w e n i).setCell ⟨w.heap.size, i, none⟩ (.int .u8 (n / 2 ^ (8 * i) % 256)) = w8 w e n (i + 1) := by
  have h1 : (nums .u8 (row8 n (i + 1))).toArray = ((nums .u8 (row8 n i)).toArray).setIfInBounds i (.int .u8 (n / 2 ^ (8 * i) % 256)) := by
    rw [← row8_set n i hi]
    apply Array.ext'
    simp [nums, List.map_set]
  unfold w8
  rw [h1]
  have h2 : ∀ c : Array Value, w.alloc (.cells c e) = { w with heap := w.heap.push (.cells c e) } := fun _ => rfl
  rw [h2, h2]
  simp only [World.setCell]
  congr 1
  apply Array.ext'
  simp only [Array.toList_modify, Array.toList_push]
  have h3 : ∀ (l : List Obj) (x : Obj) (f : Obj → Obj), (l ++ [x]).modify l.length f = l ++ [f x] := by
    intro l x f
    induction l with
    | nil => rfl
    | cons a l ih => simp [List.modify_succ_cons, ih]
  have h4 := h3 w.heap.toList (.cells (nums .u8 (row8 n i)).toArray e)
  simp only [Array.length_toList] at h4
  rw [h4]
  rfl
theorem w8_cell (w : World) (e : TypeId) (n : Int) (i : Nat) (hi : i < 8) : ∃ v, (w8 w e n i).cell? ⟨w.heap.size, i, none⟩ = some v := by
  have := cell_of_row (w8 w e n i) w.heap.size i _ e (0, 0) (w8_heap w e n i)
  rw [this]
  exact ⟨_, Array.getElem?_eq_getElem (by simp [w8_size, hi])⟩
theorem w8_frozen (w : World) (e : TypeId) (n : Int) (i j : Nat) : (w8 w e n i).frozen? ⟨w.heap.size, j, none⟩ = false := by
  simp [World.frozen?, w8_heap w e n i]
theorem w8_reads (w : World) (e : TypeId) (n : Int) : ReadsInt (w8 w e n 8) .u8 (some ⟨w.heap.size, 0, none⟩) 8 (le8 n) := by
  refine ⟨by simp [le8], by omega, fun _ => ⟨_, rfl, fun j hj => ?_⟩⟩
  have hadd : (⟨w.heap.size, 0, none⟩ : Addr).add j = ⟨w.heap.size, j, none⟩ := by unfold Addr.add; split <;> simp_all
  rw [hadd, cell_of_row (w8 w e n 8) w.heap.size j _ e (0, 0) (w8_heap w e n 8), row8_all]
  have hl : j < (le8 n).length := by simpa [le8] using hj
  simp [nums, List.getD_eq_getElem?_getD, List.getElem?_eq_getElem hl]
set_option maxHeartbeats 8000000 in
set_option maxRecDepth 100000 in
theorem wire_Int.calls (a0 : Int) (r : ByteArray) (w : World) (h : wire_Int.f a0 = some r) :
    Calls Try.prog 13 #[.int .u64 a0] w fun e w' => e = .returned (.string r) ∧ Below w.heap.size w w' := by
  unfold wire_Int.f at h
  have HR := Aside0.mk (Option.some.inj h)
  clear h
  have HW := Aside0.mk (show (w.alloc (.cells #[Value.int IntKind.u8 0, Value.int IntKind.u8 0, Value.int IntKind.u8 0, Value.int IntKind.u8 0, Value.int IntKind.u8 0, Value.int IntKind.u8 0, Value.int IntKind.u8 0, Value.int IntKind.u8 0] 74)) = w8 w 74 a0 0 from rfl)
  go_enter Try.func13, Try.ntmps13
  go_wp2
  rw [HW.out]
  go_loopg [5, 4] 8 (fun g v5 v4 wx => ∃ i : Nat, i + g = 8 ∧ v5 = .int .i64 (i : Int) ∧ wx = w8 w 74 a0 i)
  case atStart => exact ⟨0, by omega, rfl, rfl⟩
  case round =>
    obtain ⟨i, hig, rfl, rfl⟩ := hrel
    cases gk with
    | zero =>
      obtain rfl : i = 8 := by omega
      have hcv := string_of_reads (P := Try.prog) (w := w8 w 74 a0 8) (c := 8) Try.underlying48 Try.underlying5 Try.underlying9 (w8_reads w 74 a0)
      go_wp2
      go_ret
      exact ⟨by rw [← HR.out]; rfl, below_alloc (Below.refl _ _) _⟩
    | succ g =>
      have hi : i < 8 := by omega
      obtain ⟨v0, hcell⟩ := w8_cell w 74 a0 i hi
      have hfro := w8_frozen w 74 a0 i i
      have hset := w8_set w 74 a0 i hi
      go_wp2
      go_roundg g
      case measure => omega
      case rel => exact ⟨i + 1, by omega, by go_num, rfl⟩
end Go.Proofs.Ytnilogameaaooaa.Q
