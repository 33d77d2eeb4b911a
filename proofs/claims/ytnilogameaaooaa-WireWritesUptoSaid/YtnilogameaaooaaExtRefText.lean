/- depotref03.Text, walked by hand: it goes on in the row of a conversion. -/
import Derived.Test.YtnilogameaaooaaRefInt
import Derived.Test.YtnilogameaaooaaTail
import Derived.Test.YtnilogameaaooaaKit
import Derived.WalkMore
namespace Go.Proofs.Ytnilogameaaooaa.Q
open Go.RowKit Go.Proofs.YtnilogameaaooaaW.PrintWords Go.Proofs.YtnilogameaaooaaW.PrintLast Go.Proofs.YtnilogameaaooaaW.PrintMore Go.Proofs.Ytnilogameaaooaa.Bytes Go.Proofs.Ytnilogameaaooaa.Tail
set_option linter.unusedVariables false
set_option linter.unusedSimpArgs false

/-- How many noughts go behind n bytes. -/
def padOf (n : Nat) : Nat := (8 - n % 8) % 8
/-- The bytes of a framed text. -/
def frame8 (s : ByteArray) : List Int := le8 (s.size : Int) ++ (numsOf s ++ List.replicate (padOf s.size) 0)
def depotref03_Text.f (a0 : ByteArray) : Option (ByteArray) := if a0.size ≤ 140737488351232 then some (strOfNums (frame8 a0)) else none
/-- The first i bytes behind the length. -/
def upTo (s : ByteArray) (i : Nat) : List Int := le8 (s.size : Int) ++ (numsOf s ++ List.replicate (padOf s.size) 0).take i
theorem upTo_len (s : ByteArray) (i : Nat) (h : i ≤ s.size + padOf s.size) : (upTo s i).length = 8 + i := by
  simp only [upTo, List.length_append, List.length_take, numsOf_len, List.length_replicate]
  have : (le8 (s.size : Int)).length = 8 := by simp [le8]
  omega
theorem upTo_all (s : ByteArray) : upTo s (s.size + padOf s.size) = frame8 s := by
  unfold upTo frame8
  rw [List.take_of_length_le (by simp [numsOf_len])]
theorem upTo_byte (s : ByteArray) (i : Nat) (h : i < s.size) : upTo s i ++ [((s[i]'h).toNat : Int)] = upTo s (i + 1) := by
  unfold upTo
  rw [List.append_assoc]
  congr 1
  rw [List.take_add_one, List.getElem?_append_left (by rw [numsOf_len]; exact h)]
  congr 1
  simp only [numsOf, List.getElem?_map, Array.getElem?_toList]
  rw [Array.getElem?_eq_getElem (show i < s.data.size from h)]
  rfl
theorem upTo_zero (s : ByteArray) (i : Nat) (h : s.size ≤ i) (h2 : i < s.size + padOf s.size) : upTo s i ++ [0] = upTo s (i + 1) := by
  unfold upTo
  rw [List.append_assoc]
  congr 1
  rw [List.take_add_one, List.getElem?_append_right (by rw [numsOf_len]; exact h), numsOf_len, List.getElem?_replicate, if_pos (by omega)]
  rfl
theorem numsOf_str (s : List Int) (h : ∀ x ∈ s, 0 ≤ x ∧ x < 256) : numsOf (strOfNums s) = s := by
  induction s with
  | nil => rfl
  | cons x s ih =>
    have hx := h x List.mem_cons_self
    have ih := ih fun y hy => h y (List.mem_cons_of_mem _ hy)
    simp only [numsOf, strOfNums, List.map_cons, List.map_map] at ih ⊢
    rw [ih]
    congr 1
    rw [UInt8.toNat_ofNat', Nat.mod_eq_of_lt (by omega)]
    omega
theorem le8_range (n : Int) : ∀ x ∈ le8 n, 0 ≤ x ∧ x < 256 := by
  intro x hx
  simp only [le8, List.mem_map] at hx
  obtain ⟨j, _, rfl⟩ := hx
  omega
set_option maxHeartbeats 8000000 in
set_option maxRecDepth 100000 in
theorem depotref03_Text.calls (a0 : ByteArray) (r : ByteArray) (w : World) (h : depotref03_Text.f a0 = some r) :
    Calls Try.prog 16 #[.string a0] w fun e w' => e = .returned (.string r) ∧ Below w.heap.size w w' := by
  unfold depotref03_Text.f at h
  by_cases hsz : a0.size ≤ 140737488351232
  case neg => rw [if_neg hsz] at h; exact absurd h (by simp)
  rw [if_pos hsz] at h
  have HR := Aside0.mk (Option.some.inj h)
  clear h
  obtain ⟨K, hK⟩ := Pure.refInt (a0.size : Int) (by omega) (by omega)
  have HI := Aside0.mk (hK K (Nat.le_refl _))
  clear hK
  have hwrap : IntKind.u64.wrap (a0.size : Int) = (a0.size : Int) := by
    have : IntKind.u64.wrap (a0.size : Int) = (a0.size : Int) % 18446744073709551616 := rfl
    omega
  go_enter Try.func16, Try.ntmps16
  have hsm : (strOfNums (le8 (a0.size : Int))).size = 8 := rfl
  go_wp2_with (first | (go_at_call 14; refine (depotref03_Int.calls K _ _ _ HI.out).mono ?_; rintro e w1 ⟨rfl, hb1⟩) | ((with_reducible refine gate_dst (N := 9) rfl ?_); refine T_conv (w0 := w) w.heap.size 5 rfl (N := 9) rfl 9 48 _ rfl _ rfl Try.underlying9 Try.underlying48 Try.underlying5 (by rw [hsm]; decide) hb1 hb1.size ?_; intro v3 w2 HO hb2))
  replace HO : OwnT w2 w.heap.size 5 v3 (upTo a0 0) := by
    have e : numsOf (strOfNums (le8 (a0.size : Int))) = upTo a0 0 := by rw [numsOf_str _ (le8_range _)]; simp [upTo]
    rw [e] at HO; exact HO
  have HO := Aside0.mk HO
  have HB := Aside0.mk hb2
  have hN : (a0.size + padOf a0.size) % 8 = 0 ∧ padOf a0.size < 8 := by unfold padOf; omega
  clear hb1 hb2 hwrap hsm
  obtain ⟨N, hNe⟩ : ∃ N, a0.size + padOf a0.size = N := ⟨_, rfl⟩
  go_loopg [3, 4] N (fun g v3 v4 wx => ∃ i : Nat, i + g = N ∧ v4 = .int .i64 (i : Int) ∧ Aside0 (OwnT wx w.heap.size 5 v3 (upTo a0 i)) ∧ Aside0 (Below w.heap.size w wx))
  case atStart => exact ⟨0, by omega, rfl, ⟨HO.out⟩, ⟨HB.out⟩⟩
  case round =>
    obtain ⟨i, hig, rfl, HO, HB⟩ := hrel
    cases gk with
    | zero =>
      obtain rfl : i = N := by omega
      have d1 : decide ((i : Int) < (a0.size : Int)) = false := decide_eq_false (by omega)
      have d2 : (((i : Int) % 8 : Int) != 0) = false := by
        have : (i : Int) % 8 = 0 := by omega
        rw [this]; rfl
      have hcv := OwnT.string (P := Try.prog) Try.underlying48 Try.underlying5 Try.underlying9 HO.out
      go_wp2
      go_ret
      exact ⟨by rw [← HR.out, ← upTo_all, hNe]; rfl, HB.out⟩
    | succ g =>
      by_cases hc : i < a0.size
      · have d1 : decide ((i : Int) < (a0.size : Int)) = true := decide_eq_true (by omega)
        have HU := Aside0.mk (upTo_byte a0 i hc)
        have hlen := upTo_len a0 i (by omega)
        go_wp2_with (first | ((with_reducible refine gate_builtin (b := .append) (xs := #[.tmp 25, .tmp 29]) rfl ?_); at_builtin; refine T_append (w0 := w) w.heap.size 5 rfl (.tmp 25) (.tmp 29) 48 rfl Try.underlying48 info5 _ _ _ rfl _ _ rfl (cell_lit _ _ _) (HO.out.alloc _) (below_alloc HB.out _) (below_alloc HB.out _).size (by omega) ?_; intro v1 w1 HO1 hb1))
        rw [HU.out] at HO1
        go_roundg g
        case measure => omega
        case rel => exact ⟨i + 1, by omega, by go_num, ⟨HO1⟩, ⟨hb1⟩⟩
      · have d1 : decide ((i : Int) < (a0.size : Int)) = false := decide_eq_false (by omega)
        have d2 : (((i : Int) % 8 : Int) != 0) = true := by
          have : (i : Int) % 8 ≠ 0 := by omega
          simpa using this
        have HU := Aside0.mk (upTo_zero a0 i (by omega) (by omega))
        have hlen := upTo_len a0 i (by omega)
        go_wp2_with (first | ((with_reducible refine gate_builtin (b := .append) (xs := #[.tmp 31, .tmp 32]) rfl ?_); at_builtin; refine T_append (w0 := w) w.heap.size 5 rfl (.tmp 31) (.tmp 32) 48 rfl Try.underlying48 info5 _ _ _ rfl _ _ rfl (cell_lit _ _ _) (HO.out.alloc _) (below_alloc HB.out _) (below_alloc HB.out _).size (by omega) ?_; intro v1 w1 HO1 hb1))
        rw [HU.out] at HO1
        go_roundg g
        case measure => omega
        case rel => exact ⟨i + 1, by omega, by go_num, ⟨HO1⟩, ⟨hb1⟩⟩
end Go.Proofs.Ytnilogameaaooaa.Q
