/- spath.CheckLabel, walked by hand: a range over a text, byte by byte; beyond ASCII it is refused. -/
import Derived.Test.YtglhbbijoeeclaaDoorQ0
import Derived.Test.YtglhbbijoeeclaaDoorBytes
import Derived.Test.YtglhbbijoeeclaaDoorKit
import Derived.Test.YtglhbbijoeeclaaDoorShelf
import Derived.WalkMore
import Derived.Laws.RangeAny
import Derived.Laws.RangeString
import Derived.Lib.IndexAny
import Derived.Lib.IndexBytes
namespace Go.Proofs.YtglhbbijoeeclaaDoor.Q
open Go.RowKit Go.Proofs.YtglhbbijoeeclaaDoorW.PrintWords Go.Proofs.YtglhbbijoeeclaaDoorW.PrintLast Go.Proofs.YtglhbbijoeeclaaDoorW.PrintMore Go.Proofs.YtglhbbijoeeclaaDoor.Bytes
set_option linter.unusedVariables false
set_option linter.unusedSimpArgs false

/-- The signs of a label that are neither digit nor letter. -/
def signs : ByteArray := ⟨#[43, 45, 46, 95, 63, 61]⟩
/-- May a byte stand in a label? -/
def lab (c : UInt8) : Bool := (decide (48 ≤ c.toNat) && decide (c.toNat ≤ 57)) || (decide (97 ≤ c.toNat) && decide (c.toNat ≤ 122)) || (decide (65 ≤ c.toNat) && decide (c.toNat ≤ 90)) || signs.data.toList.contains c
/-- What CheckLabel answers. -/
def labelNo (l : List UInt8) : Int := if l = [] ∨ 211 < l.length ∨ l.head? = some 46 then 130 else if l.all lab then 0 else 130
def spath_CheckLabel.f (a0 : ByteArray) : Option (Int) := some (labelNo (bs a0))

theorem labelNo_bad {l : List UInt8} {i : Nat} {x : UInt8} (hx : l[i]? = some x) (h : lab x = false) : labelNo l = 130 := by
  unfold labelNo
  have : l.all lab = false := by
    rw [List.all_eq_false]
    exact ⟨x, List.mem_of_getElem? hx, by rw [h]; simp⟩
  rw [this]
  split <;> rfl
/-- The first i bytes may stand in a label. -/
def LabTo (l : List UInt8) (i : Nat) : Prop := ∀ (j : Nat) x, j < i → l[j]? = some x → lab x = true
theorem LabTo.succ {l : List UInt8} {i : Nat} {x : UInt8} (h : LabTo l i) (hx : l[i]? = some x) (hl : lab x = true) : LabTo l (i + 1) := fun j y hj hy => by
  by_cases e : j = i
  · subst e
    rw [hx] at hy
    injection hy with hy
    rw [← hy]; exact hl
  · exact h j y (by omega) hy
theorem labelNo_good {l : List UInt8} (h0 : ¬ (l = [] ∨ 211 < l.length ∨ l.head? = some 46)) (h : LabTo l l.length) : labelNo l = 0 := by
  unfold labelNo
  rw [if_neg h0, if_pos]
  rw [List.all_eq_true]
  intro x hx
  obtain ⟨j, hj⟩ := List.getElem?_of_mem hx
  exact h j x (List.getElem?_eq_some_iff.1 hj).1 hj

set_option maxHeartbeats 8000000 in
set_option maxRecDepth 100000 in
theorem spath_CheckLabel.calls (a0 : ByteArray) (r : Int) (w : World) (h : spath_CheckLabel.f a0 = some r) :
    Calls Tryd.prog 15 #[.string a0] w fun e w' => e = .returned (.int .i64 r) ∧ Below w.heap.size w w' := by
  unfold spath_CheckLabel.f at h
  have HR := Aside0.mk (Option.some.inj h)
  clear h
  by_cases h0 : a0.size = 0
  · have hb : bs a0 = [] := List.length_eq_zero_iff.1 (by rw [← size_bs]; exact h0)
    have e1 : a0.toList.isEmpty = true := by rw [toList_bs, hb]; rfl
    have e2 : (a0.toList == ([] : List UInt8)) = true := by rw [toList_bs, hb]; rfl
    have HF := Aside0.mk (show labelNo (bs a0) = 130 by unfold labelNo; rw [if_pos (.inl hb)])
    clear hb
    go_enter Tryd.func15, Tryd.ntmps15
    go_wp2
    go_ret
    exact ⟨by rw [← HR.out, HF.out]; rfl, Below.refl _ _⟩
  · have hb : bs a0 ≠ [] := fun h => h0 (by rw [size_bs, h]; rfl)
    have e1 : a0.toList.isEmpty = false := by rw [toList_bs]; simpa using hb
    have e2 : (a0.toList == ([] : List UInt8)) = false := by rw [toList_bs]; simpa using hb
    by_cases h1 : 211 < a0.size
    · have d1 : decide ((211 : Int) < (a0.size : Int)) = true := decide_eq_true (by omega)
      have HF := Aside0.mk (show labelNo (bs a0) = 130 by unfold labelNo; rw [if_pos (.inr (.inl (by rw [← size_bs]; exact h1)))])
      clear hb
      go_enter Tryd.func15, Tryd.ntmps15
      go_wp2
      go_ret
      exact ⟨by rw [← HR.out, HF.out]; rfl, Below.refl _ _⟩
    · have d1 : decide ((211 : Int) < (a0.size : Int)) = false := decide_eq_false (by omega)
      have hp : 0 < a0.size := by omega
      obtain ⟨c, hc⟩ : ∃ c : UInt8, a0[0]'hp = c := ⟨_, rfl⟩
      have hh : (bs a0).head? = some c := by
        rw [List.head?_eq_getElem?, ← hc]
        exact Lib.data_getElem? a0 0 hp
      by_cases h2 : c = 46
      · have b2 : ((c.toNat : Int) == 46) = true := by rw [h2]; rfl
        have HF := Aside0.mk (show labelNo (bs a0) = 130 by unfold labelNo; rw [if_pos (.inr (.inr (by rw [hh, h2])))])
        clear hb hh h2
        go_enter Tryd.func15, Tryd.ntmps15
        go_wp2
        go_ret
        exact ⟨by rw [← HR.out, HF.out]; rfl, Below.refl _ _⟩
      · have b2 : ((c.toNat : Int) == 46) = false := by rw [beq_eq_false_iff_ne]; intro e; exact h2 ((byte_eq_iff c 46).1 e)
        have HG := Aside0.mk (show LabTo (bs a0) (bs a0).length → labelNo (bs a0) = 0 from labelNo_good (by
          rintro (h | h | h)
          · exact hb h
          · rw [← size_bs] at h; omega
          · rw [hh] at h; injection h with h; exact h2 h))
        clear hb hh h2
        go_enter Tryd.func15, Tryd.ntmps15
        go_wp2
        clear hc b2
        go_loopg [19, 20, 21, 22] a0.size (fun g _ _ _ _ wx => ∃ i : Nat, i + g = a0.size ∧ wx = w.iter a0 i ∧ Aside0 (LabTo (bs a0) i))
        case atStart => exact ⟨0, by omega, rfl, ⟨fun _ _ h => absurd h (Nat.not_lt_zero _)⟩⟩
        case round =>
          obtain ⟨i, hig, rfl, HL⟩ := hrel
          cases gk with
          | zero =>
            obtain rfl : i = a0.size := by omega
            have hnx := run_next_end (P := Tryd.prog) w a0 a0.size
            go_wp2
            go_ret
            exact ⟨by rw [← HR.out, HG.out (by rw [← size_bs]; exact HL.out)]; rfl, (Below.refl _ _).alloc (Nat.le_refl _) _⟩
          | succ g =>
            have hi : i < a0.size := by omega
            obtain ⟨x, hx⟩ : ∃ x : UInt8, a0[i]'hi = x := ⟨_, rfl⟩
            have hxl : (bs a0)[i]? = some x := by rw [← hx]; exact Lib.data_getElem? a0 i hi
            have Hx := Aside0.mk hxl
            clear hxl
            by_cases ha : x.toNat < 128
            · have hnx := fun ty => run_next_ascii (P := Tryd.prog) w a0 i ty hi (by rw [hx]; exact ha)
              rw [hx] at hnx
              clear hx
              have HI : x.toNat < 43 ∨ (43 ≤ x.toNat ∧ x.toNat ≤ 47) ∨ (48 ≤ x.toNat ∧ x.toNat ≤ 57) ∨ (58 ≤ x.toNat ∧ x.toNat ≤ 64) ∨ (65 ≤ x.toNat ∧ x.toNat ≤ 90) ∨ (91 ≤ x.toNat ∧ x.toNat ≤ 96) ∨ (97 ≤ x.toNat ∧ x.toNat ≤ 122) ∨ 123 ≤ x.toNat := by omega
              have hback : ((x.toNat : Int)).toNat.toUInt8 = x := by simp
              by_cases hal : (48 ≤ x.toNat ∧ x.toNat ≤ 57) ∨ (65 ≤ x.toNat ∧ x.toNat ≤ 90) ∨ (97 ≤ x.toNat ∧ x.toNat ≤ 122)
              · have HS := Aside0.mk (HL.out.succ Hx.out (show lab x = true by
                  unfold lab
                  rcases hal with ⟨q1, q2⟩ | ⟨q1, q2⟩ | ⟨q1, q2⟩
                  · rw [decide_eq_true q1, decide_eq_true q2]; rfl
                  · rw [decide_eq_true q1, decide_eq_true q2]; simp
                  · rw [decide_eq_true q1, decide_eq_true q2]; simp))
                clear HI hback
                rcases hal with ⟨q1, q2⟩ | ⟨q1, q2⟩ | ⟨q1, q2⟩
                all_goals
                  have q3 : (x.toNat : Int) ≤ 127 := by omega
                  have q1' := Int.ofNat_le.2 q1
                  have q2' := Int.ofNat_le.2 q2
                  clear q1 q2
                  go_wp2
                  go_roundg g
                  case measure => omega
                  case rel => exact ⟨i + 1, by omega, rfl, HS⟩
              · have hnl : ∀ b, signs.data.toList.contains x = b → lab x = b := by
                  intro b hb
                  unfold lab
                  rw [hb]
                  have n1 : (decide (48 ≤ x.toNat) && decide (x.toNat ≤ 57)) = false := by
                    rw [Bool.eq_false_iff]; intro h; rw [Bool.and_eq_true, decide_eq_true_iff, decide_eq_true_iff] at h; exact hal (.inl h)
                  have n2 : (decide (97 ≤ x.toNat) && decide (x.toNat ≤ 122)) = false := by
                    rw [Bool.eq_false_iff]; intro h; rw [Bool.and_eq_true, decide_eq_true_iff, decide_eq_true_iff] at h; exact hal (.inr (.inr h))
                  have n3 : (decide (65 ≤ x.toNat) && decide (x.toNat ≤ 90)) = false := by
                    rw [Bool.eq_false_iff]; intro h; rw [Bool.and_eq_true, decide_eq_true_iff, decide_eq_true_iff] at h; exact hal (.inr (.inl h))
                  rw [n1, n2, n3]; rfl
                have hcon := Lib.contains_iff_indexByte signs.data.toList x
                cases hin : signs.data.toList.contains x
                · rw [hin] at hcon
                  have HF := Aside0.mk (labelNo_bad Hx.out (hnl false hin))
                  have HC := Aside0.mk hcon.symm
                  clear hcon hnl hin
                  have hal' : ¬ ((48 ≤ x.toNat ∧ x.toNat ≤ 57) ∨ (65 ≤ x.toNat ∧ x.toNat ≤ 90) ∨ (97 ≤ x.toNat ∧ x.toNat ≤ 122)) := hal
                  rcases HI with q | ⟨q, q'⟩ | ⟨q, q'⟩ | ⟨q, q'⟩ | ⟨q, q'⟩ | ⟨q, q'⟩ | ⟨q, q'⟩ | q
                  all_goals first
                    | (exfalso; omega)
                    | (clear hal hal'
                       have q1 := Int.ofNat_le.2 q
                       first | (have q2 := Int.ofNat_le.2 q') | skip
                       have q3 : (x.toNat : Int) < 128 := by omega
                       go_wp2_with (go_at_call 30; refine (Tryd.strings_ContainsRune_ascii _ _ _ (by omega) (by omega)).mono ?_; rintro e w' ⟨rfl, hw⟩; rw [hw, hback]; rw [show decide (0 ≤ Lib.indexByte ({ data := #[43, 45, 46, 95, 63, 61] } : ByteArray).data.toList x) = false from HC.out]; clear hw)
                       go_ret
                       exact ⟨by rw [← HR.out, HF.out]; rfl, (Below.refl _ _).alloc (Nat.le_refl _) _⟩)
                · rw [hin] at hcon
                  have HS := Aside0.mk (HL.out.succ Hx.out (hnl true hin))
                  have HC := Aside0.mk hcon.symm
                  clear hcon hnl hin
                  have hal' : ¬ ((48 ≤ x.toNat ∧ x.toNat ≤ 57) ∨ (65 ≤ x.toNat ∧ x.toNat ≤ 90) ∨ (97 ≤ x.toNat ∧ x.toNat ≤ 122)) := hal
                  rcases HI with q | ⟨q, q'⟩ | ⟨q, q'⟩ | ⟨q, q'⟩ | ⟨q, q'⟩ | ⟨q, q'⟩ | ⟨q, q'⟩ | q
                  all_goals first
                    | (exfalso; omega)
                    | (clear hal hal'
                       have q1 := Int.ofNat_le.2 q
                       first | (have q2 := Int.ofNat_le.2 q') | skip
                       have q3 : (x.toNat : Int) < 128 := by omega
                       go_wp2_with (go_at_call 30; refine (Tryd.strings_ContainsRune_ascii _ _ _ (by omega) (by omega)).mono ?_; rintro e w' ⟨rfl, hw⟩; rw [hw, hback]; rw [show decide (0 ≤ Lib.indexByte ({ data := #[43, 45, 46, 95, 63, 61] } : ByteArray).data.toList x) = true from HC.out]; clear hw)
                       go_roundg g
                       case measure => omega
                       case rel => exact ⟨i + 1, by omega, rfl, HS⟩)
            · have hd := decode_high a0 i hi (by rw [hx]; omega)
              have hd2 := decode_le a0 i
              have hnx := fun ty => run_next_any (P := Tryd.prog) w a0 i ty hi
              obtain ⟨rn, hrn⟩ : ∃ rn, (Utf8.decode a0 i).1 = rn := ⟨_, rfl⟩
              rw [hrn] at hd hd2 hnx
              obtain ⟨hd, hd1⟩ := hd
              have HF := Aside0.mk (labelNo_bad Hx.out (show lab x = false by
                unfold lab
                have n1 : decide (x.toNat ≤ 57) = false := decide_eq_false (by omega)
                have n2 : decide (x.toNat ≤ 122) = false := decide_eq_false (by omega)
                have n3 : decide (x.toNat ≤ 90) = false := decide_eq_false (by omega)
                have n4 : signs.data.toList.contains x = false := by
                  rw [Bool.eq_false_iff]
                  intro h
                  rw [List.contains_iff_mem] at h
                  have e : signs.data.toList = [43, 45, 46, 95, 63, 61] := rfl
                  rw [e] at h
                  simp at h
                  rcases h with rfl | rfl | rfl | rfl | rfl | rfl <;> exact absurd ha (by decide)
                rw [n1, n2, n3, n4]
                simp))
              clear hx hrn ha
              go_wp2
              go_ret
              exact ⟨by rw [← HR.out, HF.out]; rfl, (Below.refl _ _).alloc (Nat.le_refl _) _⟩
end Go.Proofs.YtglhbbijoeeclaaDoor.Q
