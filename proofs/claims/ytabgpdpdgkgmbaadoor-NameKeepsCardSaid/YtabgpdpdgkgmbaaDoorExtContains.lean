/- strings.ContainsAny at the bytes that no name may hold ('/' and 0), for every text of at most 255 bytes, ASCII or not. -/
import Derived.Test.YtabgpdpdgkgmbaaDoorQ0
import Derived.Test.YtabgpdpdgkgmbaaDoorBytes
import Derived.Test.YtabgpdpdgkgmbaaDoorKit
import Derived.Test.YtabgpdpdgkgmbaaDoorShelf
import Derived.WalkMore
import Derived.IntWalk
import Derived.Laws.Runes
import Derived.Laws.RangeAny
import Derived.Laws.RangeString
import Derived.Lib.IndexAny
import Derived.Lib.IndexBytes
import Derived.Lib.OthersKept
import Derived.Lib.RuneCount
namespace Go.Proofs.YtabgpdpdgkgmbaaDoor.Q
open Go.RowKit Go.Proofs.YtabgpdpdgkgmbaaDoorW.PrintWords Go.Proofs.YtabgpdpdgkgmbaaDoorW.PrintLast Go.Proofs.YtabgpdpdgkgmbaaDoorW.PrintMore Go.Proofs.YtabgpdpdgkgmbaaDoor.Bytes
set_option linter.unusedVariables false
set_option linter.unusedSimpArgs false

set_option maxRecDepth 1000000 in
set_option maxHeartbeats 8000000 in
/-- A rune beyond ASCII doesn't stand in an ASCII text. -/
theorem indexRune_high (t : ByteArray) (ht : t.size ≤ 1000) (ha : ∀ (j : Nat) b, t.data.toList[j]? = some b → b.toNat < 128) (r : Int) (h1 : 128 ≤ r) (h2 : r ≤ 2147483647) (w : World) :
    Calls Tryd.prog 35 #[.string t, .int .i32 r] w fun e w' => e = .returned (.int .i64 (-1)) ∧ Below w.heap.size w w' := by
  have HA := Aside0.mk ha
  clear ha
  by_cases he : r = 65533
  · subst he
    go_enter Tryd.func35, Tryd.ntmps35
    go_wp2
    repeat (go_step3; go_wp2)
    go_loopg [176, 177, 178, 179, 180, 181, 5, 6] t.size (fun g v1 v2 v3 v4 v5 v6 v7 v8 wx => ∃ i : Nat, i + g = t.size ∧ wx = w.iter t i)
    case atStart => exact ⟨0, by omega, rfl⟩
    case round =>
      obtain ⟨i, hig, rfl⟩ := hrel
      cases gk with
      | zero =>
        obtain rfl : i = t.size := by omega
        have hnx := run_next_end (P := Tryd.prog) w t t.size
        go_wp2
        repeat (first | (rw [Exit.noGoto_ret]; try go_wp2) | fail)
        go_ret
        exact ⟨rfl, (Below.refl _ _).alloc (Nat.le_refl _) _⟩
      | succ g =>
        have hi : i < t.size := by omega
        obtain ⟨x, hx⟩ : ∃ x : UInt8, t[i]'hi = x := ⟨_, rfl⟩
        have hx128 : x.toNat < 128 := HA.out i x (by rw [← hx]; exact Lib.data_getElem? t i hi)
        have hnx := fun ty => run_next_ascii (P := Tryd.prog) w t i ty hi (by rw [hx]; exact hx128)
        rw [hx] at hnx
        clear hx
        have bx : ((x.toNat : Int) == 65533) = false := beq_eq_false_iff_ne.2 (by omega)
        go_wp2
        go_roundg g
        case measure => omega
        case rel => exact ⟨i + 1, by omega, rfl⟩
  · have d1 : decide (r < 128) = false := decide_eq_false (by omega)
    have b1 : (r == 65533) = false := beq_eq_false_iff_ne.2 he
    cases hv : Lib.validRune r with
    | false =>
      go_enter Tryd.func35, Tryd.ntmps35
      go_wp2_with (go_at_call 44; refine (Tryd.utf8_ValidRune _ _).mono ?_; rintro e w' ⟨rfl, hw⟩; rw [hw, hv])
      repeat (go_step3; go_wp2_with (go_at_call 44; refine (Tryd.utf8_ValidRune _ _).mono ?_; rintro e w' ⟨rfl, hw⟩; rw [hw, hv]))
      go_ret
      exact ⟨rfl, Below.refl _ _⟩
    | true =>
      have hv2 : Utf8.valid r = true := by
        rw [validRune_eq]
        unfold Lib.validRune at hv
        unfold validRune
        simp at hv ⊢
        omega
      obtain ⟨E, hE⟩ : ∃ E, Utf8.encode r = E := ⟨_, rfl⟩
      have hf := encode_facts r hv2 h1
      rw [hE] at hf
      obtain ⟨f1, f2, f3⟩ := hf
      clear hv2
      obtain ⟨m, hm⟩ : ∃ m, E.size = m + 1 := ⟨E.size - 1, by omega⟩
      have f3' : ∀ h : m < E.size, 128 ≤ ((E[m]'h).toNat) := by
        intro h
        have := f3 (by omega)
        simpa only [hm, Nat.add_sub_cancel] using this
      clear f3
      have hmE : m < E.size := by omega
      obtain ⟨y, hy⟩ : ∃ y : UInt8, E[m]'hmE = y := ⟨_, rfl⟩
      have hy128 := Aside0.mk (show 128 ≤ y.toNat by rw [← hy]; exact f3' hmE)
      clear f3' f1
      go_enter Tryd.func35, Tryd.ntmps35
      go_wp2_with (go_at_call 44; refine (Tryd.utf8_ValidRune _ _).mono ?_; rintro e w' ⟨rfl, hw⟩; rw [hw, hv])
      repeat (go_step3; go_wp2_with (go_at_call 44; refine (Tryd.utf8_ValidRune _ _).mono ?_; rintro e w' ⟨rfl, hw⟩; rw [hw, hv]))
      go_loopg [9] 0 (fun g v9 w' => v9 = .int .i64 (m : Int) ∧ Aside0 (Below w.heap.size w w'))
      case atStart => exact ⟨by first | rfl | go_num, ⟨Below.refl _ _⟩⟩
      case round =>
        obtain ⟨rfl, HB⟩ := hrel
        by_cases hlt : m < t.size
        · have dm : decide (m < t.size) = true := decide_eq_true hlt
          obtain ⟨x, hx⟩ : ∃ x : UInt8, t[m]'hlt = x := ⟨_, rfl⟩
          have hx128 : x.toNat < 128 := HA.out m x (by rw [← hx]; exact Lib.data_getElem? t m hlt)
          have hne : ((x.toNat : Int) != (y.toNat : Int)) = true := by rw [bne_iff_ne]; have := hy128.out; omega
          have hneg : Lib.indexByte (List.take (t.size - (m + 1)) (List.drop (m + 1) t.data.toList)) y < 0 := by
            have hc := Lib.contains_iff_indexByte (List.take (t.size - (m + 1)) (List.drop (m + 1) t.data.toList)) y
            have hf : (List.take (t.size - (m + 1)) (List.drop (m + 1) t.data.toList)).contains y = false := by
              rw [Bool.eq_false_iff]
              intro h
              rw [List.contains_iff_mem] at h
              have hm2 := List.mem_of_mem_drop (List.mem_of_mem_take h)
              obtain ⟨j, hj⟩ := List.getElem?_of_mem hm2
              have := HA.out j y hj
              have := hy128.out
              omega
            rw [hf] at hc
            have := of_decide_eq_false hc.symm
            omega
          clear hx128
          go_wp2
          go_step3
          go_wp2
          go_quiet (fail)
          go_wp2
          have s0 : (m : Int) + 1 ≤ (t.size : Int) := by omega
          have s0' : m + 1 ≤ t.size := by omega
          have s1 : IntKind.i64.wrap ((m : Int) + 1) = (m : Int) + 1 := IntWalk.i64_in _ (by omega)
          have s2 : 0 ≤ (m : Int) + 1 := by omega
          have s3 : ((m : Int) + 1).toNat = m + 1 := by omega
          have s4 : (m : Int) < (m : Int) + 1 := by omega
          have s5 : (m : Int).toNat = m := by omega
          have s6 : (m : Int) < (E.size : Int) := by omega
          go_quiet ((go_at_call 43; exact Kit.quiet_more_same (Tryd.strings_IndexByte _ _ _)))
          go_wp2
          repeat (first | (rw [Exit.noGoto_ret]; try go_wp2) | fail)
          go_ret
          exact ⟨rfl, by repeat (first | exact HB.out | apply below_drew | apply pw_below_drewN)⟩
        · have dm : decide (m < t.size) = false := decide_eq_false hlt
          go_wp2
          repeat (first | (rw [Exit.noGoto_ret]; try go_wp2) | fail)
          go_ret
          exact ⟨rfl, by repeat (first | exact HB.out | apply below_drew | apply pw_below_drewN)⟩

theorem get_byte (s : ByteArray) (i : Nat) (h : i < s.size) : s.get! i = s[i]'h := by
  have := get_at s i h
  exact this
/-- The bytes of a rune beyond ASCII are all beyond ASCII. -/
theorem decode_wide (s : ByteArray) (pos : Nat) (h : pos < s.size) (ha : 128 ≤ (s[pos]'h).toNat) : ∀ k, k < (Utf8.decode s pos).2 → pos + k < s.size ∧ 128 ≤ (s.get! (pos + k)).toNat := by
  have h0 : 128 ≤ (s.get! (pos + 0)).toNat := by rw [Nat.add_zero, get_byte s pos h]; exact ha
  intro k hk
  match k with
  | 0 => exact ⟨h, h0⟩
  | k + 1 =>
    have hn : ¬ (s.get! (pos + 0)).toNat < 128 := by omega
    simp only [Utf8.decode, hn, if_false] at hk
    have fin : ∀ q, (decide (pos + q < s.size) && (s.get! (pos + q)).toNat / 64 == 2) = true → pos + q < s.size ∧ 128 ≤ (s.get! (pos + q)).toNat := by
      intro q hq
      rw [Bool.and_eq_true, decide_eq_true_iff, beq_iff_eq] at hq
      exact ⟨hq.1, by omega⟩
    split at hk
    · rename_i hc
      rw [Bool.and_eq_true] at hc
      split at hk
      · obtain rfl : k = 0 := by simp at hk; omega
        exact fin 1 hc.2
      · simp at hk
    · split at hk
      · rename_i hc
        simp only [Bool.and_eq_true] at hc
        split at hk
        · simp only at hk
          rcases (show k = 0 ∨ k = 1 by omega) with rfl | rfl
          · exact fin 1 (by rw [Bool.and_eq_true]; exact hc.1.2)
          · exact fin 2 (by rw [Bool.and_eq_true]; exact hc.2)
        · simp at hk
      · split at hk
        · rename_i hc
          simp only [Bool.and_eq_true] at hc
          split at hk
          · simp only at hk
            rcases (show k = 0 ∨ k = 1 ∨ k = 2 by omega) with rfl | rfl | rfl
            · exact fin 1 (by rw [Bool.and_eq_true]; exact hc.1.1.2)
            · exact fin 2 (by rw [Bool.and_eq_true]; exact hc.1.2)
            · exact fin 3 (by rw [Bool.and_eq_true]; exact hc.2)
          · simp at hk
        · simp at hk

/-- The two bytes that no name may hold. -/
def SL : ByteArray := ⟨#[47, 0]⟩
theorem SL_ascii : ∀ (j : Nat) b, SL.data.toList[j]? = some b → b.toNat < 128 := by
  intro j b h
  have : b ∈ SL.data.toList := List.mem_of_getElem? h
  have e : SL.data.toList = [47, 0] := rfl
  rw [e] at this
  simp at this
  rcases this with rfl | rfl <;> decide
theorem noAny_wide {s : ByteArray} {i n : Nat} (hno : Lib.NoAny s.data.toList SL.data.toList i) (h : ∀ k, k < n → i + k < s.size ∧ 128 ≤ (s.get! (i + k)).toNat) : Lib.NoAny s.data.toList SL.data.toList (i + n) := by
  intro j b hj hb
  by_cases hji : j < i
  · exact hno j b hji hb
  · obtain ⟨h1, h2⟩ := h (j - i) (by omega)
    rw [show i + (j - i) = j by omega] at h1 h2
    rw [get_byte s j h1] at h2
    have e := Lib.data_getElem? s j h1
    rw [e] at hb
    injection hb with hb
    rw [hb] at h2
    rw [Bool.eq_false_iff]
    intro hc
    rw [List.contains_iff_mem] at hc
    have e : SL.data.toList = [47, 0] := rfl
    rw [e] at hc
    simp at hc
    rcases hc with rfl | rfl
    · exact absurd h2 (by decide)
    · exact absurd h2 (by decide)

set_option maxHeartbeats 8000000 in
set_option maxRecDepth 1000000 in
theorem indexAny_short (s : ByteArray) (w : World) (h8 : s.size ≤ 8) :
    Calls Tryd.prog 28 #[.string s, .string SL] w fun e w' => e = .returned (.int .i64 (Lib.indexAny s.data.toList SL.data.toList)) ∧ Below w.heap.size w w' := by
  obtain ⟨C, hC⟩ : ∃ C, SL = C := ⟨_, rfl⟩
  have hCa := SL_ascii
  have hC2 : SL.size = 2 := rfl
  have hemp : SL.toList.isEmpty = false := by rw [toList_bs]; rfl
  have HW := fun {s : ByteArray} {i n : Nat} (hno : Lib.NoAny s.data.toList SL.data.toList i) (h : ∀ k, k < n → i + k < s.size ∧ 128 ≤ (s.get! (i + k)).toNat) => noAny_wide hno h
  rw [hC] at hCa hC2 hemp HW ⊢
  have hWide := Aside0.mk @HW
  have hn1 : ((C.size : Int) == 1) = false := beq_eq_false_iff_ne.2 (by omega)
  have hCs : C.size ≤ 1000 := by omega
  have HA := Aside0.mk hCa
  have h8z : decide ((8 : Int) < (s.size : Int)) = false := decide_eq_false (by omega)
  clear hC hCa hC2 HW
  go_enter Tryd.func28, Tryd.ntmps28
  go_wp2_with (go_at_call 36; refine (Tryd.strings_shouldUseASCIISet _ _).mono ?_; rintro e w' ⟨rfl, hw⟩; rw [hw, h8z])
  obtain ⟨K, hK⟩ : ∃ K, K = w.heap.size := ⟨_, rfl⟩
  have HB1 := Aside0.mk (show Below K w (w.iter s 0) by rw [hK]; exact (Below.refl _ _).alloc (Nat.le_refl _) _)
  have HI1 := Aside0.mk (show (w.iter s 0).heap[K]? = some (.stringIter s 0) by rw [hK]; exact World.iter_heap _ _ _)
  rw [← hK]
  have HK := Aside0.mk hK
  clear hK
  go_loopg [9, 10] s.size (fun g _ _ wx => ∃ i : Nat, s.size ≤ i + g ∧ i ≤ s.size ∧ Aside0 (wx.heap[K]? = some (.stringIter s i)) ∧ Aside0 (Below K w wx) ∧ Aside0 (Lib.NoAny s.data.toList C.data.toList i))
  case atStart => exact ⟨0, by omega, by omega, HI1, HB1, ⟨Lib.NoAny.zero _ _⟩⟩
  case round =>
    clear HI1 HB1
    obtain ⟨i, hig, his, HI, HB, HN⟩ := hrel
    by_cases hi : i < s.size
    · by_cases ha : (s[i]'hi).toNat < 128
      · obtain ⟨x, hx⟩ : ∃ x : UInt8, s[i]'hi = x := ⟨_, rfl⟩
        have hxl : s.data.toList[i]? = some x := by rw [← hx]; exact Lib.data_getElem? s i hi
        rw [hx] at ha
        have hnx := fun ty => Lib.run_next_ascii_at (P := Tryd.prog) wr K s i ty HI.out hi (by rw [hx]; exact ha)
        rw [hx] at hnx
        have Hx := Aside0.mk hxl
        have HI2 := Aside0.mk (Lib.iterAt_heap wr K s i (i + 1) HI.out)
        have HB2 := Aside0.mk (Lib.below_iterAt HB.out (Nat.le_refl K) s (i + 1))
        clear hxl hx
        have hcon := Lib.contains_iff_indexByte C.data.toList x
        have hback : ((x.toNat : Int)).toNat.toUInt8 = x := by simp
        cases hin : C.data.toList.contains x
        · rw [hin] at hcon
          have hlt : ¬ ((0 : Int) ≤ Lib.indexByte C.data.toList x) := of_decide_eq_false hcon.symm
          clear hcon
          go_wp2_with (go_at_call 35; refine (Tryd.strings_IndexRune_ascii _ _ _ (by omega) (by omega)).mono ?_; rintro e w' ⟨rfl, hw⟩; rw [hw, hback]; clear hw)
          go_roundg (s.size - (i + 1))
          case measure => omega
          case rel => exact ⟨i + 1, by omega, by omega, HI2, HB2, ⟨HN.out.succ Hx.out hin⟩⟩
        · rw [hin] at hcon
          have hge : (0 : Int) ≤ Lib.indexByte C.data.toList x := of_decide_eq_true hcon.symm
          clear hcon
          go_wp2_with (go_at_call 35; refine (Tryd.strings_IndexRune_ascii _ _ _ (by omega) (by omega)).mono ?_; rintro e w' ⟨rfl, hw⟩; rw [hw, hback]; clear hw)
          go_ret
          exact ⟨by rw [Lib.indexAny_hit HN.out Hx.out hin]; rfl, by rw [← HK.out]; exact HB2.out⟩
      · have hd := decode_high s i hi (by omega)
        have hd2 := decode_le s i
        have hwide := hWide.out HN.out (decode_wide s i hi (by omega))
        have hnx := fun ty => Lib.run_next_any_at (P := Tryd.prog) wr K s i ty HI.out hi
        obtain ⟨rn, hrn⟩ : ∃ rn, (Utf8.decode s i).1 = rn := ⟨_, rfl⟩
        obtain ⟨wd, hwd⟩ : ∃ wd, (Utf8.decode s i).2 = wd := ⟨_, rfl⟩
        have hin := (decode_wide s i hi (by omega) (wd - 1) (by omega)).1
        rw [hrn] at hd hd2 hnx
        rw [hwd] at hd hnx hwide
        obtain ⟨hd, hd1⟩ := hd
        have HI2 := Aside0.mk (Lib.iterAt_heap wr K s i (i + wd) HI.out)
        have HB2 := Aside0.mk (Lib.below_iterAt HB.out (Nat.le_refl K) s (i + wd))
        have HN2 := Aside0.mk hwide
        have HL := Aside0.mk (show K < wr.heap.size from (Array.getElem?_eq_some_iff.1 HI.out).1)
        clear hrn hwd hwide ha
        go_wp2_with (go_at_call 35; refine (indexRune_high C hCs HA.out _ (by omega) (by omega) _).mono ?_; rintro e w1 ⟨rfl, hw⟩; have HW1 := Aside0.mk hw; clear hw)
        go_roundg (s.size - (i + wd))
        case measure => omega
        case rel =>
          refine ⟨i + wd, by omega, by omega, ⟨?_⟩, ⟨?_⟩, HN2⟩
          · have := HW1.out.block K (by rw [Lib.iterAt_size]; exact HL.out)
            rw [this]
            exact HI2.out
          · exact HB2.out.trans (HW1.out.mono (by rw [Lib.iterAt_size]; exact Nat.le_of_lt HL.out))
    · obtain rfl : i = s.size := by omega
      have hnx := fun ty => Lib.run_next_end_at (P := Tryd.prog) wr K s s.size ty HI.out (by omega)
      go_wp2
      go_ret
      exact ⟨by rw [Lib.indexAny_none (by rw [← Lib.size_eq]; exact HN.out)]; rfl, by rw [← HK.out]; exact HB.out⟩

theorem indexAny_slash (s : ByteArray) (w : World) (hs : s.size ≤ 255) :
    Calls Tryd.prog 28 #[.string s, .string SL] w fun e w' => e = .returned (.int .i64 (Lib.indexAny s.data.toList SL.data.toList)) ∧ Below w.heap.size w w' := by
  by_cases h8 : s.size ≤ 8
  · exact indexAny_short s w h8
  · refine (Tryd.strings_IndexAny_long (fun w => by kernel_rfl) s SL w (by decide) (by omega) (by omega) (by decide) SL_ascii).mono ?_
    rintro e w' ⟨rfl, rfl⟩
    exact ⟨rfl, ((Below.refl _ _).alloc (Nat.le_refl _) _).alloc ((Below.refl w.heap.size w).alloc (Nat.le_refl _) _).size _⟩

def strings_ContainsAny.f (a0 : ByteArray) (a1 : ByteArray) : Option (Bool) := if a1 = SL ∧ a0.size ≤ 255 then some (decide (47 ∈ bs a0 ∨ 0 ∈ bs a0)) else none
theorem indexAny_mem (l chars : List UInt8) : (0 ≤ Lib.indexAny l chars) ↔ ∃ x ∈ l, chars.contains x = true := by
  induction l with
  | nil => simp [Lib.indexAny]
  | cons b l ih =>
    have hge := Lib.indexAny_ge chars l
    unfold Lib.indexAny
    by_cases hb : chars.contains b = true
    · rw [if_pos hb]
      exact ⟨fun _ => ⟨b, List.mem_cons_self, hb⟩, fun _ => Int.le_refl _⟩
    · rw [if_neg hb]
      have e : (∃ x ∈ b :: l, chars.contains x = true) ↔ ∃ x ∈ l, chars.contains x = true := by
        constructor
        · rintro ⟨x, hx, h⟩
          rcases List.mem_cons.1 hx with rfl | hx
          · exact absurd h hb
          · exact ⟨x, hx, h⟩
        · rintro ⟨x, hx, h⟩
          exact ⟨x, List.mem_cons_of_mem _ hx, h⟩
      rw [e, ← ih]
      split
      · rename_i h
        rw [beq_iff_eq] at h
        omega
      · rename_i h
        rw [beq_iff_eq] at h
        omega
theorem strings_ContainsAny.calls (a0 : ByteArray) (a1 : ByteArray) (r : Bool) (w : World) (h : strings_ContainsAny.f a0 a1 = some r) :
    Calls Tryd.prog 22 #[.string a0, .string a1] w fun e w' => e = .returned (.bool r) ∧ Below w.heap.size w w' := by
  unfold strings_ContainsAny.f at h
  by_cases hc : a1 = SL ∧ a0.size ≤ 255
  case neg => rw [if_neg hc] at h; exact absurd h (by simp)
  rw [if_pos hc] at h
  obtain ⟨rfl, hs⟩ := hc
  have HR := Aside0.mk (Option.some.inj h)
  clear h
  obtain ⟨n, hn⟩ : ∃ n, Lib.indexAny a0.data.toList SL.data.toList = n := ⟨_, rfl⟩
  have hf : ∀ W : World, Calls Tryd.prog 28 #[.string a0, .string SL] W fun e w' => e = .returned (.int .i64 n) ∧ Below W.heap.size W w' := fun W => by rw [← hn]; exact indexAny_slash a0 W hs
  have HF := Aside0.mk hf
  have HE := Aside0.mk (show decide (0 ≤ n) = r by
    rw [← HR.out, ← hn, decide_eq_decide, indexAny_mem]
    have e : SL.data.toList = [47, 0] := rfl
    rw [e]
    constructor
    · rintro ⟨x, hx, hm⟩
      simp at hm
      rcases hm with rfl | rfl
      · exact .inl hx
      · exact .inr hx
    · rintro (h | h)
      · exact ⟨47, h, rfl⟩
      · exact ⟨0, h, rfl⟩)
  clear hn hf
  generalize SL = C at HF ⊢
  go_enter Tryd.func22, Tryd.ntmps22
  go_wp2_with (go_at_call 28; refine (HF.out _).mono ?_; rintro e w1 ⟨rfl, hw⟩; have HW1 := Aside0.mk hw; clear hw)
  go_ret
  exact ⟨by rw [← HE.out]; rfl, HW1.out⟩
end Go.Proofs.YtabgpdpdgkgmbaaDoor.Q
