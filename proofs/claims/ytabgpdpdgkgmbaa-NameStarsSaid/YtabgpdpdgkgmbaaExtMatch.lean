/- The program's Match, walked: a greedy matcher with one star kept, and what it answers: 'fits'. -/
import Derived.Test.YtabgpdpdgkgmbaaQ0
import Derived.Test.YtabgpdpdgkgmbaaMatchPure
import Derived.WalkMore
namespace Go.Proofs.Ytabgpdpdgkgmbaa.Q
open Go.RowKit Go.Proofs.YtabgpdpdgkgmbaaW.PrintWords Go.Proofs.YtabgpdpdgkgmbaaW.PrintLast Go.Proofs.YtabgpdpdgkgmbaaW.PrintMore Go.Proofs.Ytabgpdpdgkgmbaa.Bytes Go.Proofs.Ytabgpdpdgkgmbaa.Fits
set_option linter.unusedVariables false
set_option linter.unusedSimpArgs false

def name_Match.f (a0 : ByteArray) (a1 : ByteArray) : Option (Bool) := if a0.size ≤ 1000000000000000 ∧ a1.size ≤ 1000000000000000 then some (fits (bs a0) (bs a1)) else none

/-- What holds at the head of the great loop. -/
def MS (P S : List UInt8) (i j : Nat) (st : Int) (m : Nat) : Prop := (st = -1 ∧ m = 0 ∧ Inv0 P S i j) ∨ ∃ s : Nat, st = s ∧ Inv1 P S i j s m
def mes (P S : List UInt8) (i m : Nat) : Nat := (S.length - m) * (P.length + 1) + (P.length - i)
theorem mes_i {P S : List UInt8} {i m m' : Nat} (h : i < P.length) (hm : m ≤ m') (hs : m' ≤ S.length) : mes P S (i + 1) m' < mes P S i m := by
  unfold mes
  rcases Nat.lt_or_ge m m' with h1 | h1
  · have : (S.length - m') + 1 ≤ S.length - m := by omega
    have := Nat.mul_le_mul_right (P.length + 1) this
    rw [Nat.add_mul] at this
    omega
  · have : m = m' := by omega
    subst this
    omega
theorem mes_back {P S : List UInt8} {i i' m : Nat} (hs : m < S.length) : mes P S i' (m + 1) < mes P S i m := by
  unfold mes
  have : (S.length - (m + 1)) + 1 ≤ S.length - m := by omega
  have := Nat.mul_le_mul_right (P.length + 1) this
  rw [Nat.add_mul] at this
  omega
theorem at_bs (s : ByteArray) (i : Nat) (h : i < s.size) (h' : i < (bs s).length) : (bs s)[i] = s[i] := rfl
theorem int_ne (a b : UInt8) : (a ≠ b) ↔ ((a.toNat : Int) ≠ (b.toNat : Int)) := by rw [Ne, Ne, byte_eq_iff]

set_option maxHeartbeats 2000000 in
theorem name_Match.calls (a0 : ByteArray) (a1 : ByteArray) (r : Bool) (w : World) (h : name_Match.f a0 a1 = some r) :
    Calls Try.prog 12 #[.string a0, .string a1] w fun e w' => e = .returned (.bool r) ∧ Drawn0 w w' := by
  unfold name_Match.f at h
  by_cases hs : a0.size ≤ 1000000000000000 ∧ a1.size ≤ 1000000000000000
  case neg => rw [if_neg hs] at h; exact absurd h (by simp)
  rw [if_pos hs] at h
  have HR := Aside0.mk (Option.some.inj h)
  obtain ⟨hs0, hs1⟩ := hs
  clear h
  go_enter Try.func12, Try.ntmps12
  go_wp2
  go_step3
  go_wp2
  go_step3
  go_wp2
  go_loopg [5, 6, 7, 8] (mes (bs a0) (bs a1) 0 0) (fun g v5 v6 v7 v8 w' => ∃ (i j m : Nat) (st : Int), v5 = .int .i64 (i : Int) ∧ v6 = .int .i64 (j : Int) ∧ v7 = .int .i64 st ∧ v8 = .int .i64 (m : Int) ∧ Aside0 (MS (bs a0) (bs a1) i j st m) ∧ Aside0 (mes (bs a0) (bs a1) i m ≤ g) ∧ Drawn0 w w')
  case atStart => exact ⟨0, 0, 0, -1, rfl, rfl, rfl, rfl, ⟨.inl ⟨rfl, rfl, Inv0.start _ _⟩⟩, ⟨Nat.le_refl _⟩, Drawn0.refl _⟩
  case round =>
    obtain ⟨i, j, m, st, rfl, rfl, rfl, rfl, HM, HG, hd⟩ := hrel
    have gpos := HG.out
    clear gpos
    rcases HM.out with ⟨rfl, rfl, I⟩ | ⟨s, rfl, I⟩
    ·
      have hI := I.hi
      have hJ := I.hj
      rw [← size_bs] at hI hJ
      by_cases hj : j < a1.size
      · have dj : decide (j < a1.size) = true := decide_eq_true hj
        by_cases hi : i < a0.size
        · have di : decide (i < a0.size) = true := decide_eq_true hi
          by_cases hc : a0[i] = 42
          · have bc : (((a0[i]'hi).toNat : Int) == 42) = true := by rw [hc]; rfl
            have HS := Aside0.mk (show MS (bs a0) (bs a1) (i + 1) j i j from .inr ⟨i, rfl, I.star (by rw [← size_bs]; exact hi) hc⟩)
            have HD := Aside0.mk (Nat.lt_of_lt_of_le (mes_i (P := bs a0) (S := bs a1) (i := i) (m := 0) (m' := j) (by rw [← size_bs]; exact hi) (by omega) (by rw [← size_bs]; exact hJ)) HG.out)
            clear hc I HM
            go_wp2
            go_roundg (mes (bs a0) (bs a1) (i + 1) j)
            case measure => exact HD.out
            case rel => exact ⟨i + 1, j, j, i, by go_num, rfl, rfl, rfl, HS, ⟨Nat.le_refl _⟩, by repeat (first | exact hd | apply Drawn0.step)⟩
          · have bc : (((a0[i]'hi).toNat : Int) == 42) = false := by rw [beq_eq_false_iff_ne]; exact (int_ne _ 42).1 hc
            have HD := Aside0.mk (Nat.lt_of_lt_of_le (mes_i (P := bs a0) (S := bs a1) (i := i) (m := 0) (m' := 0) (by rw [← size_bs]; exact hi) (Nat.le_refl _) (by rw [← size_bs]; omega)) HG.out)
            by_cases hq : a0[i] = 63
            · have bq : (((a0[i]'hi).toNat : Int) == 63) = true := by rw [hq]; rfl
              have HS := Aside0.mk (show MS (bs a0) (bs a1) (i + 1) (j + 1) (-1) 0 from .inl ⟨rfl, rfl, I.char (by rw [← size_bs]; exact hi) (by rw [← size_bs]; exact hj) hc (.inl hq)⟩)
              clear hc hq I HM
              go_wp2
              go_roundg (mes (bs a0) (bs a1) (i + 1) 0)
              case measure => exact HD.out
              case rel => exact ⟨i + 1, j + 1, 0, (-1), by go_num, by go_num, rfl, rfl, HS, ⟨Nat.le_refl _⟩, by repeat (first | exact hd | apply Drawn0.step)⟩
            · have bq : (((a0[i]'hi).toNat : Int) == 63) = false := by rw [beq_eq_false_iff_ne]; exact (int_ne _ 63).1 hq
              by_cases hx : a0[i] = a1[j]
              · have bx : (((a0[i]'hi).toNat : Int) == ((a1[j]'hj).toNat : Int)) = true := by rw [beq_iff_eq, byte_eq_iff]; exact hx
                have HS := Aside0.mk (show MS (bs a0) (bs a1) (i + 1) (j + 1) (-1) 0 from .inl ⟨rfl, rfl, I.char (by rw [← size_bs]; exact hi) (by rw [← size_bs]; exact hj) hc (.inr hx)⟩)
                clear hc hq hx I HM
                go_wp2
                go_roundg (mes (bs a0) (bs a1) (i + 1) 0)
                case measure => exact HD.out
                case rel => exact ⟨i + 1, j + 1, 0, (-1), by go_num, by go_num, rfl, rfl, HS, ⟨Nat.le_refl _⟩, by repeat (first | exact hd | apply Drawn0.step)⟩
              · have bx : (((a0[i]'hi).toNat : Int) == ((a1[j]'hj).toNat : Int)) = false := by rw [beq_eq_false_iff_ne]; exact (int_ne _ _).1 hx
                have ho : Off (bs a0) (bs a1) i j := fun _ _ => ⟨hc, hq, hx⟩
                have HF := Aside0.mk (I.fail (by rw [← size_bs]; exact hj) ho)
                clear ho hc hq hx I HM
                go_wp2
                rw [Exit.noGoto_ret]
                go_ret
                exact ⟨by rw [← HR.out, HF.out]; rfl, by repeat (first | exact hd | apply Drawn0.step)⟩
        · have di : decide (i < a0.size) = false := decide_eq_false hi
          have ho : Off (bs a0) (bs a1) i j := fun h _ => absurd h (by rw [← size_bs]; exact hi)
          have HF := Aside0.mk (I.fail (by rw [← size_bs]; exact hj) ho)
          clear ho I HM
          go_wp2
          rw [Exit.noGoto_ret]
          go_ret
          exact ⟨by rw [← HR.out, HF.out]; rfl, by repeat (first | exact hd | apply Drawn0.step)⟩
      · have dj : decide (j < a1.size) = false := decide_eq_false hj
        have HF := Aside0.mk (I.done (by rw [← size_bs]; omega))
        clear I HM
        go_wp2
        go_loopg [5] (a0.size - i) (fun g v5 w' => ∃ (i : Nat), v5 = .int .i64 (i : Int) ∧ i ≤ a0.size ∧ Aside0 (fits (bs a0) (bs a1) = stars ((bs a0).drop i)) ∧ Aside0 (a0.size - i ≤ g) ∧ Drawn0 w w')
        case atStart => exact ⟨i, rfl, hI, HF, ⟨Nat.le_refl _⟩, by repeat (first | exact hd | apply Drawn0.step)⟩
        case round =>
          clear HF HG hI
          obtain ⟨i, rfl, hI, HF, HG, hd⟩ := hrel
          by_cases hi : i < a0.size
          · have di : decide (i < a0.size) = true := decide_eq_true hi
            by_cases hc : a0[i] = 42
            · have bc : (((a0[i]'hi).toNat : Int) == 42) = true := by rw [hc]; rfl
              have HS := Aside0.mk (HF.out.trans (stars_step (by rw [← size_bs]; exact hi) hc))
              clear hc HF
              go_wp2
              go_roundg (a0.size - (i + 1))
              case measure => have := HG.out; omega
              case rel => exact ⟨i + 1, by go_num, hi, HS, ⟨Nat.le_refl _⟩, by repeat (first | exact hd | apply Drawn0.step)⟩
            · have bc : (((a0[i]'hi).toNat : Int) == 42) = false := by rw [beq_eq_false_iff_ne]; exact (int_ne _ 42).1 hc
              have HS := Aside0.mk (HF.out.trans (stars_no (by rw [← size_bs]; exact hi) hc))
              have ne : (i == a0.size) = false := by rw [beq_eq_false_iff_ne]; omega
              have ne' : ((i : Int) == (a0.size : Int)) = false := by rw [beq_eq_false_iff_ne]; omega
              clear hc HF
              go_wp2
              rw [Exit.noGoto_ret]
              go_ret
              exact ⟨by rw [← HR.out, HS.out]; rfl, by repeat (first | exact hd | apply Drawn0.step)⟩
          · have di : decide (i < a0.size) = false := decide_eq_false hi
            have ne : (i == a0.size) = true := by rw [beq_iff_eq]; omega
            have ne' : ((i : Int) == (a0.size : Int)) = true := by rw [beq_iff_eq]; omega
            have HS := Aside0.mk (HF.out.trans (show stars ((bs a0).drop i) = true by rw [List.drop_of_length_le (by rw [← size_bs]; omega)]; rfl))
            clear HF
            go_wp2
            rw [Exit.noGoto_ret]
            go_ret
            exact ⟨by rw [← HR.out, HS.out]; rfl, by repeat (first | exact hd | apply Drawn0.step)⟩
    ·
      have hI := I.hi
      have hJ := I.hj
      rw [← size_bs] at hI hJ
      have hM1 := I.hm
      have hM2 : s + 1 ≤ i := by have := I.hst; omega
      by_cases hj : j < a1.size
      · have dj : decide (j < a1.size) = true := decide_eq_true hj
        by_cases hi : i < a0.size
        · have di : decide (i < a0.size) = true := decide_eq_true hi
          by_cases hc : a0[i] = 42
          · have bc : (((a0[i]'hi).toNat : Int) == 42) = true := by rw [hc]; rfl
            have HS := Aside0.mk (show MS (bs a0) (bs a1) (i + 1) j i j from .inr ⟨i, rfl, I.star (by rw [← size_bs]; exact hi) hc⟩)
            have HD := Aside0.mk (Nat.lt_of_lt_of_le (mes_i (P := bs a0) (S := bs a1) (i := i) (m := m) (m' := j) (by rw [← size_bs]; exact hi) (by omega) (by rw [← size_bs]; exact hJ)) HG.out)
            clear hc I HM
            go_wp2
            go_roundg (mes (bs a0) (bs a1) (i + 1) j)
            case measure => exact HD.out
            case rel => exact ⟨i + 1, j, j, i, by go_num, rfl, rfl, rfl, HS, ⟨Nat.le_refl _⟩, by repeat (first | exact hd | apply Drawn0.step)⟩
          · have bc : (((a0[i]'hi).toNat : Int) == 42) = false := by rw [beq_eq_false_iff_ne]; exact (int_ne _ 42).1 hc
            have HD := Aside0.mk (Nat.lt_of_lt_of_le (mes_i (P := bs a0) (S := bs a1) (i := i) (m := m) (m' := m) (by rw [← size_bs]; exact hi) (Nat.le_refl _) (by rw [← size_bs]; omega)) HG.out)
            by_cases hq : a0[i] = 63
            · have bq : (((a0[i]'hi).toNat : Int) == 63) = true := by rw [hq]; rfl
              have HS := Aside0.mk (show MS (bs a0) (bs a1) (i + 1) (j + 1) (s : Int) m from .inr ⟨s, rfl, I.char (by rw [← size_bs]; exact hi) (by rw [← size_bs]; exact hj) hc (.inl hq)⟩)
              clear hc hq I HM
              go_wp2
              go_roundg (mes (bs a0) (bs a1) (i + 1) m)
              case measure => exact HD.out
              case rel => exact ⟨i + 1, j + 1, m, (s : Int), by go_num, by go_num, rfl, rfl, HS, ⟨Nat.le_refl _⟩, by repeat (first | exact hd | apply Drawn0.step)⟩
            · have bq : (((a0[i]'hi).toNat : Int) == 63) = false := by rw [beq_eq_false_iff_ne]; exact (int_ne _ 63).1 hq
              by_cases hx : a0[i] = a1[j]
              · have bx : (((a0[i]'hi).toNat : Int) == ((a1[j]'hj).toNat : Int)) = true := by rw [beq_iff_eq, byte_eq_iff]; exact hx
                have HS := Aside0.mk (show MS (bs a0) (bs a1) (i + 1) (j + 1) (s : Int) m from .inr ⟨s, rfl, I.char (by rw [← size_bs]; exact hi) (by rw [← size_bs]; exact hj) hc (.inr hx)⟩)
                clear hc hq hx I HM
                go_wp2
                go_roundg (mes (bs a0) (bs a1) (i + 1) m)
                case measure => exact HD.out
                case rel => exact ⟨i + 1, j + 1, m, (s : Int), by go_num, by go_num, rfl, rfl, HS, ⟨Nat.le_refl _⟩, by repeat (first | exact hd | apply Drawn0.step)⟩
              · have bx : (((a0[i]'hi).toNat : Int) == ((a1[j]'hj).toNat : Int)) = false := by rw [beq_eq_false_iff_ne]; exact (int_ne _ _).1 hx
                have ho : Off (bs a0) (bs a1) i j := fun _ _ => ⟨hc, hq, hx⟩
                have HS := Aside0.mk (show MS (bs a0) (bs a1) (s + 1) (m + 1) (s : Int) (m + 1) from .inr ⟨s, rfl, I.back (by rw [← size_bs]; exact hj) ho⟩)
                have HE := Aside0.mk (Nat.lt_of_lt_of_le (mes_back (P := bs a0) (S := bs a1) (i := i) (i' := s + 1) (m := m) (by rw [← size_bs]; omega)) HG.out)
                have l1 : (m : Int) < a1.size := by omega
                have l2 : (s : Int) < a0.size := by omega
                clear ho hc hq hx I HM
                go_wp2
                go_roundg (mes (bs a0) (bs a1) (s + 1) (m + 1))
                case measure => exact HE.out
                case rel => exact ⟨s + 1, m + 1, m + 1, s, by go_num, by go_num, rfl, by go_num, HS, ⟨Nat.le_refl _⟩, by repeat (first | exact hd | apply Drawn0.step)⟩
        · have di : decide (i < a0.size) = false := decide_eq_false hi
          have ho : Off (bs a0) (bs a1) i j := fun h _ => absurd h (by rw [← size_bs]; exact hi)
          have HS := Aside0.mk (show MS (bs a0) (bs a1) (s + 1) (m + 1) (s : Int) (m + 1) from .inr ⟨s, rfl, I.back (by rw [← size_bs]; exact hj) ho⟩)
          have HE := Aside0.mk (Nat.lt_of_lt_of_le (mes_back (P := bs a0) (S := bs a1) (i := i) (i' := s + 1) (m := m) (by rw [← size_bs]; omega)) HG.out)
          have l1 : (m : Int) < a1.size := by omega
          have l2 : (s : Int) < a0.size := by omega
          clear ho I HM
          go_wp2
          go_roundg (mes (bs a0) (bs a1) (s + 1) (m + 1))
          case measure => exact HE.out
          case rel => exact ⟨s + 1, m + 1, m + 1, s, by go_num, by go_num, rfl, by go_num, HS, ⟨Nat.le_refl _⟩, by repeat (first | exact hd | apply Drawn0.step)⟩
      · have dj : decide (j < a1.size) = false := decide_eq_false hj
        have HF := Aside0.mk (I.done (by rw [← size_bs]; omega))
        clear I HM
        go_wp2
        go_loopg [5] (a0.size - i) (fun g v5 w' => ∃ (i : Nat), v5 = .int .i64 (i : Int) ∧ i ≤ a0.size ∧ Aside0 (fits (bs a0) (bs a1) = stars ((bs a0).drop i)) ∧ Aside0 (a0.size - i ≤ g) ∧ Drawn0 w w')
        case atStart => exact ⟨i, rfl, hI, HF, ⟨Nat.le_refl _⟩, by repeat (first | exact hd | apply Drawn0.step)⟩
        case round =>
          clear HF HG hI
          obtain ⟨i, rfl, hI, HF, HG, hd⟩ := hrel
          by_cases hi : i < a0.size
          · have di : decide (i < a0.size) = true := decide_eq_true hi
            by_cases hc : a0[i] = 42
            · have bc : (((a0[i]'hi).toNat : Int) == 42) = true := by rw [hc]; rfl
              have HS := Aside0.mk (HF.out.trans (stars_step (by rw [← size_bs]; exact hi) hc))
              clear hc HF
              go_wp2
              go_roundg (a0.size - (i + 1))
              case measure => have := HG.out; omega
              case rel => exact ⟨i + 1, by go_num, hi, HS, ⟨Nat.le_refl _⟩, by repeat (first | exact hd | apply Drawn0.step)⟩
            · have bc : (((a0[i]'hi).toNat : Int) == 42) = false := by rw [beq_eq_false_iff_ne]; exact (int_ne _ 42).1 hc
              have HS := Aside0.mk (HF.out.trans (stars_no (by rw [← size_bs]; exact hi) hc))
              have ne : (i == a0.size) = false := by rw [beq_eq_false_iff_ne]; omega
              have ne' : ((i : Int) == (a0.size : Int)) = false := by rw [beq_eq_false_iff_ne]; omega
              clear hc HF
              go_wp2
              rw [Exit.noGoto_ret]
              go_ret
              exact ⟨by rw [← HR.out, HS.out]; rfl, by repeat (first | exact hd | apply Drawn0.step)⟩
          · have di : decide (i < a0.size) = false := decide_eq_false hi
            have ne : (i == a0.size) = true := by rw [beq_iff_eq]; omega
            have ne' : ((i : Int) == (a0.size : Int)) = true := by rw [beq_iff_eq]; omega
            have HS := Aside0.mk (HF.out.trans (show stars ((bs a0).drop i) = true by rw [List.drop_of_length_le (by rw [← size_bs]; omega)]; rfl))
            clear HF
            go_wp2
            rw [Exit.noGoto_ret]
            go_ret
            exact ⟨by rw [← HR.out, HS.out]; rfl, by repeat (first | exact hd | apply Drawn0.step)⟩
end Go.Proofs.Ytabgpdpdgkgmbaa.Q
