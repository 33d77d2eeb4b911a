/- Texts of this claim, put together: PureWirePads, Q33, Q1, Q36, Framed, Q37, PureWireBack, PureWireShort, Opens. -/
import Derived.Test.YtnilogameaaooaaCWireShort5
import Derived.Test.YtnilogameaaooaaCWireShort6
import Derived.Test.YtnilogameaaooaaCWireShort1
import Derived.Test.YtnilogameaaooaaCWireShort3
import Derived.Test.YtnilogameaaooaaCWireShort2
import Derived.Test.YtnilogameaaooaaRows
import Derived.Test.YtnilogameaaooaaWWords
import Derived.Test.YtnilogameaaooaaWLast
import Derived.Deep.Slices
import Derived.ProofKit
import Derived.SizedLaws
/- depotlaw03.WirePads answers true for every text, place and byte. -/
set_option linter.unusedVariables false
set_option linter.unusedSimpArgs false
namespace Go.Proofs.Ytnilogameaaooaa.Pure
open Go.RowKit Go.Proofs.Ytnilogameaaooaa.Q Go.Proofs.Ytnilogameaaooaa.Rdr Go.Proofs.Ytnilogameaaooaa.Tail Go.Proofs.YtnilogameaaooaaW.PrintWords Go.Proofs.YtnilogameaaooaaW.PrintLast Go.Proofs.YtnilogameaaooaaW.PrintMore Go.Proofs.Ytnilogameaaooaa.Bytes Go.Proofs.Ytnilogameaaooaa.Evs

theorem nums_extract (s : ByteArray) (i j : Nat) : numsOf (s.extract i j) = ((numsOf s).drop i).take (j - i) := by
  have h : (s.extract i j).data.toList = (s.data.toList.drop i).take (j - i) := bs_extract s i j
  unfold numsOf
  rw [h, List.map_take, List.map_drop]
theorem val_le (k : Nat) : ∀ (n : Int), 0 ≤ n → val ((List.range k).map fun j => n / 2 ^ (8 * j) % 256) = n % 256 ^ k := by
  induction k with
  | zero => intro n hn; simp [val, Int.emod_one]
  | succ k ih =>
    intro n hn
    have hd : 0 ≤ n / 256 := by omega
    rw [List.range_succ_eq_map, List.map_cons, List.map_map]
    simp only [val]
    have e : ((fun j => n / 2 ^ (8 * j) % 256) ∘ Nat.succ) = fun j => (n / 256) / 2 ^ (8 * j) % 256 := by
      funext j
      simp only [Function.comp]
      rw [show 8 * Nat.succ j = 8 + 8 * j by omega, Int.pow_add, ← Int.ediv_ediv_of_nonneg (by decide)]
      rfl
    rw [e, ih (n / 256) hd]
    have h1 : n / 2 ^ (8 * 0) % 256 = n % 256 := by simp
    rw [h1]
    have h2 : n % (256 ^ (k + 1)) = n % 256 + 256 * (n / 256 % 256 ^ k) := by
      obtain ⟨m, rfl⟩ := Int.eq_ofNat_of_zero_le hn
      obtain ⟨P, hP⟩ : ∃ P : Nat, (256 : Int) ^ k = (P : Int) := ⟨256 ^ k, (Int.natCast_pow 256 k).symm⟩
      rw [Int.pow_succ, Int.mul_comm, hP]
      have := congrArg (fun x : Nat => (x : Int)) (@Nat.mod_mul 256 P m)
      simp only [Int.natCast_add, Int.natCast_mul, Int.natCast_emod, Int.natCast_ediv] at this
      exact this
    exact h2.symm
theorem val_le8 (n : Int) (h0 : 0 ≤ n) (h1 : n < 18446744073709551616) : val (le8 n) = n := by
  have := val_le 8 n h0
  unfold le8
  rw [this]
  have : (256 : Int) ^ 8 = 18446744073709551616 := by decide
  rw [this]
  exact Int.emod_eq_of_lt h0 h1
theorem le8_len (n : Int) : (le8 n).length = 8 := by simp [le8]
theorem firstNZ_at (b : Int) (hb : b ≠ 0) (r : List Int) : ∀ j : Nat, firstNZ (List.replicate j 0 ++ b :: r) = some j
  | 0 => by simp only [List.replicate_zero, List.nil_append, firstNZ]; rw [if_neg hb]
  | j + 1 => by
    rw [List.replicate_succ, List.cons_append]
    simp only [firstNZ]
    rw [if_pos trivial, firstNZ_at b hb r j]
    rfl
theorem WirePads : ∀ (x0 : ByteArray) (x1 : Int) (x2 : Int), x0.size ≤ 140737488351232 → (Lit.int .i64 x1).wf = true → (Lit.int .u8 x2).wf = true → ((x0).size + 1) + 1 + 1 ≤ 1048576 → ∃ k, depotlaw03_WirePads.f k (x0) (x1) (x2) = some true := by
  intro s at_ b h1 h2 h3 h4
  have hb : 0 ≤ b ∧ b < 256 := by have := bounds_u8 h3; omega
  apply Ev.rounds
  simp only [depotlaw03_WirePads.f]
  have hT : wire_Text.f s = some (strOfNums (frame8 s)) := if_pos h1
  have hsz := text_size s
  have hp : padOf s.size < 8 := pad8 _
  refine Ev.bind awake_ev (pos rfl (call hT ?_))
  rw [w64 (x := 8 + (s.size : Int)) (by omega) (by omega), hsz]
  by_cases c1 : at_ < 8 + (s.size : Int)
  · exact pos c1 (now rfl)
  · refine neg c1 ?_
    by_cases c2 : at_ ≥ ((8 + (s.size + padOf s.size) : Nat) : Int)
    · exact pos c2 (now rfl)
    · refine neg c2 ?_
      by_cases c3 : b = 0
      · exact pos c3 (now rfl)
      · refine neg c3 (pos (by omega) (pos (by omega) (call rfl ?_)))
        obtain ⟨a, rfl⟩ := Int.eq_ofNat_of_zero_le (show 0 ≤ at_ by omega)
        obtain ⟨j, rfl⟩ : ∃ j, a = 8 + s.size + j := ⟨a - (8 + s.size), by omega⟩
        have hj : j < padOf s.size := by omega
        have w1 : wrap64 (((8 + s.size + j : Nat) : Int) + 1) = ((8 + s.size + j + 1 : Nat) : Int) := wr _ (by omega)
        rw [w1, Int.toNat_natCast, Int.toNat_natCast]
        have z1 : ((strOfNums (frame8 s)).extract 0 (8 + s.size + j)).size = 8 + s.size + j := by rw [ByteArray.size_extract, hsz]; omega
        have z2 : (strOfNums [b]).size = 1 := rfl
        have z3 : ((strOfNums (frame8 s)).extract (8 + s.size + j + 1) (8 + (s.size + padOf s.size))).size = padOf s.size - (j + 1) := by rw [ByteArray.size_extract, hsz]; omega
        have hF : numsOf (strOfNums (frame8 s)) = frame8 s := by
          refine numsOf_str _ ?_
          intro x hx
          unfold frame8 at hx
          rcases List.mem_append.1 hx with hx | hx
          · simp only [le8, List.mem_map] at hx
            obtain ⟨i, _, rfl⟩ := hx
            omega
          · rcases List.mem_append.1 hx with hx | hx
            · exact numsOf_range s x hx
            · have := (List.mem_replicate.1 hx).2
              omega
        have hB : numsOf ((((strOfNums (frame8 s)).extract 0 (8 + s.size + j) ++ strOfNums [b]) ++ (strOfNums (frame8 s)).extract (8 + s.size + j + 1) (8 + (s.size + padOf s.size))) ++ s) = le8 (s.size : Int) ++ (numsOf s ++ (List.replicate j 0 ++ b :: (((frame8 s).drop (8 + s.size + j + 1)).take (8 + (s.size + padOf s.size) - (8 + s.size + j + 1)) ++ numsOf s))) := by
          rw [nums_app, nums_app, nums_app, nums_extract, nums_extract, hF, numsOf_str [b] (by intro x hx; rw [List.mem_singleton.1 hx]; exact hb), Nat.sub_zero, List.drop_zero]
          have e : (frame8 s).take (8 + s.size + j) = le8 (s.size : Int) ++ (numsOf s ++ List.replicate j 0) := by
            unfold frame8
            rw [Nat.add_assoc, List.take_append, le8_len, List.take_of_length_le (by rw [le8_len]; omega), Nat.add_sub_cancel_left, List.take_append, numsOf_len, List.take_of_length_le (by rw [numsOf_len]; omega), Nat.add_sub_cancel_left, List.take_replicate, Nat.min_eq_left (by omega)]
          rw [e]
          simp only [List.append_assoc, List.cons_append, List.nil_append]
        have hsize : ((((strOfNums (frame8 s)).extract 0 (8 + s.size + j) ++ strOfNums [b]) ++ (strOfNums (frame8 s)).extract (8 + s.size + j + 1) (8 + (s.size + padOf s.size))) ++ s).size ≤ 1099511627776 := by
          rw [ByteArray.size_append, ByteArray.size_append, ByteArray.size_append, z1, z2, z3]
          omega
        refine pos (by rw [z1, z2]; omega) (pos (by omega) (pos (by omega) (pos (by rw [ByteArray.size_append, z1, z2, z3]; omega) (pos (by rw [ByteArray.size_append, ByteArray.size_append, z1, z2, z3]; omega) ?_))))
        have hG := got_none (text := ((((strOfNums (frame8 s)).extract 0 (8 + s.size + j) ++ strOfNums [b]) ++ (strOfNums (frame8 s)).extract (8 + s.size + j + 1) (8 + (s.size + padOf s.size))) ++ s)) (plan := (⟨#[116, 116]⟩ : ByteArray)) (most := (s.size : Int)) (by decide)
        rw [hB] at hG
        have hm : m0 (s.size : Int) = (s.size : Int) := by unfold m0; rw [if_neg (by omega)]
        have hG2 : got ((((strOfNums (frame8 s)).extract 0 (8 + s.size + j) ++ strOfNums [b]) ++ (strOfNums (frame8 s)).extract (8 + s.size + j + 1) (8 + (s.size + padOf s.size))) ++ s) (⟨#[116, 116]⟩ : ByteArray) (s.size : Int) = ([], 7, 0 + 8 + (s.size : Int) + (j : Int), 0 + 8 + (s.size : Int) + (j : Int)) := by
          rw [hG, hm]
          show parse _ (116 :: [116]) _ _ = _
          simp only [parse]
          have hv : List.take 8 (le8 (s.size : Int) ++ (numsOf s ++ (List.replicate j 0 ++ b :: (((frame8 s).drop (8 + s.size + j + 1)).take (8 + (s.size + padOf s.size) - (8 + s.size + j + 1)) ++ numsOf s)))) = le8 (s.size : Int) := by
            rw [← le8_len (s.size : Int), List.take_left]
          have hd : List.drop 8 (le8 (s.size : Int) ++ (numsOf s ++ (List.replicate j 0 ++ b :: (((frame8 s).drop (8 + s.size + j + 1)).take (8 + (s.size + padOf s.size) - (8 + s.size + j + 1)) ++ numsOf s)))) = numsOf s ++ (List.replicate j 0 ++ b :: (((frame8 s).drop (8 + s.size + j + 1)).take (8 + (s.size + padOf s.size) - (8 + s.size + j + 1)) ++ numsOf s)) := by
            rw [← le8_len (s.size : Int), List.drop_left]
          rw [hv, hd, val_le8 _ (by omega) (by omega), Int.toNat_natCast]
          rw [if_neg (by rw [List.length_append, le8_len]; omega), if_neg (by decide), if_neg (by omega)]
          have hn : List.drop s.size (numsOf s ++ (List.replicate j 0 ++ b :: (((frame8 s).drop (8 + s.size + j + 1)).take (8 + (s.size + padOf s.size) - (8 + s.size + j + 1)) ++ numsOf s))) = List.replicate j 0 ++ b :: (((frame8 s).drop (8 + s.size + j + 1)).take (8 + (s.size + padOf s.size) - (8 + s.size + j + 1)) ++ numsOf s) := by
            conv => lhs; arg 1; rw [← numsOf_len s]
            rw [List.drop_left]
          rw [hn]
          generalize (((frame8 s).drop (8 + s.size + j + 1)).take (8 + (s.size + padOf s.size) - (8 + s.size + j + 1)) ++ numsOf s) = R
          obtain ⟨d, hd2⟩ : ∃ d, padOf s.size = j + (d + 1) := ⟨padOf s.size - j - 1, by omega⟩
          have ht : List.take (padOf s.size) (List.replicate j 0 ++ b :: R) = List.replicate j 0 ++ b :: R.take d := by
            rw [List.take_append, List.length_replicate, List.take_of_length_le (by rw [List.length_replicate]; omega), hd2, Nat.add_sub_cancel_left, List.take_succ_cons]
          rw [ht, firstNZ_at b c3]
        have hS := split_got _ (⟨#[116, 116]⟩ : ByteArray) (s.size : Int) hsize (by decide) (by omega)
        rw [hG2] at hS
        have hc : shutR (([], 7, 0 + 8 + (s.size : Int) + (j : Int), 0 + 8 + (s.size : Int) + (j : Int)) : List S55 × Int × Int × Int) (⟨#[116, 116]⟩ : ByteArray).size = (7, 0 + 8 + (s.size : Int) + (j : Int)) := by
          unfold shutR
          rw [if_neg (fun q => absurd (show (7 : Int) = 0 from q.1) (by decide))]
        rw [hc, if_neg (show ¬ (7 : Int) = 0 by decide)] at hS
        refine call hS (pos rfl (now ?_))
        have : 0 + 8 + (s.size : Int) + (j : Int) = ((8 + s.size + j : Nat) : Int) := by omega
        rw [this]
        simp
end Go.Proofs.Ytnilogameaaooaa.Pure
/- By a program of this session's: a plain Lean function for a Go function, and its contract. -/
namespace Go.Proofs.Ytnilogameaaooaa.Q
open Go.RowKit Go.Proofs.YtnilogameaaooaaW.PrintWords Go.Proofs.YtnilogameaaooaaW.PrintLast Go.Proofs.YtnilogameaaooaaW.PrintMore
attribute [local go_sem] max2_int min2_int max_two min_two max_three min_three max_four min_four Go.Proofs.Ytnilogameaaooaa.Ord.str_leq Go.Proofs.Ytnilogameaaooaa.Ord.str_gtr Go.Proofs.Ytnilogameaaooaa.Ord.str_geq   -- for this text's walks alone
set_option linter.unusedVariables false
set_option linter.unusedSimpArgs false

/-! ### depotlaw03_plain: function 23 -/
def depotlaw03_plain.l0 : Nat → List (S55) → List (S55) → Int → Int → Option ((List (S55)))
  | 0, _, _, _, _ => none
  | k + 1, x3, x6, x7, x8 => if x8 < x7 then (if 0 ≤ x8 then (if x8 < (x6.length : Int) then (if (rd_T55 x6 x8).f0 = true then (if x3.length < 4398046511104 then (depotlaw03_plain.l0 k (x3 ++ [(⟨true, (rd_T55 x6 x8).f1, (⟨#[]⟩ : ByteArray)⟩ : S55)]) x6 x7 (wrap64 (x8 + 1))) else (none)) else (if x3.length < 4398046511104 then (depotlaw03_plain.l0 k (x3 ++ [(⟨false, 0, (rd_T55 x6 x8).f2⟩ : S55)]) x6 x7 (wrap64 (x8 + 1))) else (none))) else (none)) else (none)) else (some x3)
def depotlaw03_plain.f (k : Nat) (l0 : List (S55)) : Option ((List (S55))) := depotlaw03_plain.l0 k ([] : List (S55)) l0 (l0.length : Int) 0
theorem depotlaw03_plain.mono_l : ∀ k, (∀ y0 y1 y2 y3, LeO (depotlaw03_plain.l0 k y0 y1 y2 y3) (depotlaw03_plain.l0 (k + 1) y0 y1 y2 y3))
  | 0 => fun _ _ _ _ r h => by simp [depotlaw03_plain.l0] at h
  | k + 1 => by
    have ih0 := depotlaw03_plain.mono_l k
    · intro y0 y1 y2 y3
      unfold depotlaw03_plain.l0
      repeat' first
      | (with_reducible exact ih0 _ _ _ _)
      | (with_reducible exact LeO.refl _)
      | (with_reducible exact LeO.none _)
      | (with_reducible refine LeO.ite ?_ ?_)
      | (with_reducible refine LeO.bind ?_ (fun _ => ?_))
      | exact ih0 _ _ _ _
      | exact LeO.none _
      | refine LeO.ite ?_ ?_
      | refine LeO.bind ?_ (fun _ => ?_)
theorem depotlaw03_plain.mono : ∀ a0 k, LeO (depotlaw03_plain.f k a0) (depotlaw03_plain.f (k + 1) a0) := by
  intro a0 k
  have ih0 := depotlaw03_plain.mono_l k
  unfold depotlaw03_plain.f
  repeat' first
      | (with_reducible exact ih0 _ _ _ _)
      | (with_reducible exact LeO.refl _)
      | (with_reducible exact LeO.none _)
      | (with_reducible refine LeO.ite ?_ ?_)
      | (with_reducible refine LeO.bind ?_ (fun _ => ?_))
      | exact ih0 _ _ _ _
      | exact LeO.none _
      | refine LeO.ite ?_ ?_
      | refine LeO.bind ?_ (fun _ => ?_)
set_option maxHeartbeats 8000000 in
set_option maxRecDepth 100000 in
theorem depotlaw03_plain.calls (k : Nat) (A0 : Option Addr) (c0 : Nat) (l0 : List (S55)) (r : List (S55)) (w : World) (hr0 : Kd.C k55 w A0 l0.length l0) (hc0 : l0.length ≤ c0) (h : depotlaw03_plain.f k l0 = some r) :
    Calls Try.prog 23 #[.slice A0 l0.length c0] w fun e w' => ∃ v0_ : Value, e = .returned (v0_) ∧ Kd.R k55 55 w' w.heap.size (fun _ => True) v0_ r ∧ Below w.heap.size w w' := by
  have hu55 := Try.underlying55
  have HR0 := Aside0.mk hr0
  have HC0 := Aside0.mk hc0
  clear hr0 hc0
  have HB := Aside0.mk (Below.refl w.heap.size w)
  have H : (depotlaw03_plain.l0 k ([] : List (S55)) l0 (l0.length : Int) 0) = some r := h
  clear h
  have H' := Aside0.mk H
  clear H
  go_enter Try.func23, Try.ntmps23
  go_wp2
  go_loopg [3, 8] k (fun kq v3 v8 w' => ∃ (x3_1 : List (S55)) (x8_1 : Int), v8 = .int .i64 x8_1 ∧ Aside0 (depotlaw03_plain.l0 kq x3_1 l0 (l0.length : Int) x8_1 = some r) ∧ Aside0 (kq ≤ k) ∧ Aside0 (Kd.R k55 55 w' w.heap.size (fun _ => True) v3 x3_1) ∧ Aside0 (Below w.heap.size w w'))
  case atStart => exact ⟨(([] : List (S55))), (0), (by first | rfl | (simp; done) | (simp [*]; done)), H', ⟨Nat.le_refl _⟩, ⟨by first | exact Kd.R_nil _ _ _ _ _ | exact Kd.N_nil _ _ _ _ _ | exact Kd.V_nil _ _ _ _ _ | exact Kd.Q_nil _ _ _ _ _ | exact Kd.S_nil _ _ _ _ _⟩, ⟨by repeat (first | (with_reducible first | exact HB.out | apply below_alloc | apply pw_below_drewN | apply below_drew1) | exact HB.out)⟩⟩
  case round =>
    clear H'
    obtain ⟨x3_1, x8_1, rfl, HA, HK1, HO_3, HB⟩ := hrel
    cases gk with
    | zero => exact absurd HA.out (by simp [depotlaw03_plain.l0])
    | succ k1 =>
      have H := HA.out
      clear HA
      simp only [depotlaw03_plain.l0] at H
      by_cases c2 : x8_1 < (l0.length : Int)
      · rw [if_pos c2] at H
        have c2b0 : decide (x8_1 < (l0.length : Int)) = true := decide_eq_true c2
        clear c2
        by_cases c3 : 0 ≤ x8_1
        · rw [if_pos c3] at H
          have c3b0 : decide (0 ≤ x8_1) = true := decide_eq_true c3
          clear c3
          by_cases c4 : x8_1 < (l0.length : Int)
          · rw [if_pos c4] at H
            have c4b0 : decide (x8_1 < (l0.length : Int)) = true := decide_eq_true c4
            clear c4
            obtain ⟨bq5, hbq5⟩ : ∃ b_ : Bool, b_ = ((rd_T55 l0 x8_1).f0) := ⟨_, rfl⟩
            replace H : (if bq5 = true then (if x3_1.length < 4398046511104 then (depotlaw03_plain.l0 k1 (x3_1 ++ [(⟨true, (rd_T55 l0 x8_1).f1, (⟨#[]⟩ : ByteArray)⟩ : S55)]) l0 (l0.length : Int) (wrap64 (x8_1 + 1))) else (none)) else (if x3_1.length < 4398046511104 then (depotlaw03_plain.l0 k1 (x3_1 ++ [(⟨false, 0, (rd_T55 l0 x8_1).f2⟩ : S55)]) l0 (l0.length : Int) (wrap64 (x8_1 + 1))) else (none))) = some r := by rw [← hbq5] at H; exact H
            have Nbq5 := Aside0.mk hbq5
            clear hbq5
            by_cases c6 : bq5 = true
            · subst c6
              have H1 : (if x3_1.length < 4398046511104 then (depotlaw03_plain.l0 k1 (x3_1 ++ [(⟨true, (rd_T55 l0 x8_1).f1, (⟨#[]⟩ : ByteArray)⟩ : S55)]) l0 (l0.length : Int) (wrap64 (x8_1 + 1))) else (none)) = some r := by rw [if_pos rfl] at H; exact H
              clear H
              have H := H1
              clear H1
              by_cases c7 : x3_1.length < 4398046511104
              · rw [if_pos c7] at H
                have LMc7 := Aside0.mk c7
                clear c7
                obtain ⟨y181, hy181⟩ : ∃ y_ : List (S55), y_ = (x3_1 ++ [(⟨true, (rd_T55 l0 x8_1).f1, (⟨#[]⟩ : ByteArray)⟩ : S55)]) := ⟨_, rfl⟩
                replace H : (depotlaw03_plain.l0 k1 y181 l0 (l0.length : Int) (wrap64 (x8_1 + 1))) = some r := by first | (rw [hy181]; with_reducible exact H) | (have H2_ := (Option.bind_some _ _).symm.trans H; rw [hy181]; with_reducible exact H2_) | (have H2_ := (Option.bind_some _ _).symm.trans H; with_reducible exact H2_) | with_reducible exact H | (rw [hy181]; exact H) | exact H
                have Ny181 := Aside0.mk hy181
                clear hy181
                have H' := Aside0.mk H
                clear H
                have p179 : 0 ≤ (x8_1 : Int) := of_decide_eq_true (by first | (with_reducible assumption) | assumption)
                have q179 : x8_1 < (l0.length : Int) := of_decide_eq_true (by first | (with_reducible assumption) | assumption)
                obtain ⟨ad179, e179, hx179_0, hx179_1, hx179_2⟩ := at_T55 HR0.out x8_1 p179 q179
                (try rw [← Nbq5.out] at hx179_0)
                cases e179
                replace hx179_0 := (HB.out.cell (World.block_lt_of_cell? w _ hx179_0)).trans hx179_0
                replace hx179_1 := (HB.out.cell (World.block_lt_of_cell? w _ hx179_1)).trans hx179_1
                replace hx179_2 := (HB.out.cell (World.block_lt_of_cell? w _ hx179_2)).trans hx179_2
                replace p179 := eq_true p179
                replace q179 := eq_true q179
                go_wp2_with (first | ((with_reducible refine gate_dst (N := 5) rfl ?_); refine box_event ?hg (N := 5) ?hd (cs := #[.bool false, .int .u64 0, .string (⟨#[]⟩ : ByteArray)]) (t := 55) ?hr ?_; (case hd => rfl); (case hg => rfl); (case hr => first | (go_simp; done) | (go_simp; rfl)); intro gb180 hg w8 hbox hb; have n0_ := Aside0.mk (Kd.R_below (Kd.R_elderB (by (with_reducible repeat (first | apply Kd.R_alloc | apply Kd.R_drewN | apply Kd.R_drew)); exact HO_3.out) gb180 (Nat.le_of_eq hg.symm)) hb); have n1_ := Aside0.mk (below_step (by repeat (first | (with_reducible first | exact HB.out | apply below_alloc | apply pw_below_drewN | apply below_drew1) | exact HB.out)) hb); have n2_ := Aside0.mk (hbox); have n3_ := Aside0.mk ((by rw [hg]; exact (below_size (by repeat (first | (with_reducible first | exact HB.out | apply below_alloc | apply pw_below_drewN | apply below_drew1) | exact HB.out))) : w.heap.size ≤ gb180)); have n4_ := Aside0.mk ((by rw [hg]; exact (below_size (by repeat (first | (with_reducible first | exact HB.out | apply below_alloc | apply pw_below_drewN | apply below_drew1) | exact HB.out))) : w.heap.size ≤ gb180)); clear HO_3; clear HB; have HO_3 := n0_; have HB := n1_; have BK180 := n2_; have GW180 := n3_; have GE180 := n4_; clear n0_ n1_ n2_ n3_ n4_; clear hb hbox hg; have hcz9_0 : w8.cell? ⟨gb180, 0, none⟩ = some (.bool false) := (blk_cell BK180.out 0).trans rfl; have hcz9_1 : w8.cell? ⟨gb180, 1, none⟩ = some (.int .u64 0) := (blk_cell BK180.out 1).trans rfl; have hcz9_2 : w8.cell? ⟨gb180, 2, none⟩ = some (.string (⟨#[]⟩ : ByteArray)) := (blk_cell BK180.out 2).trans rfl; have hfz9_0 := blk_frozen BK180.out 0; have hfz9_1 := blk_frozen BK180.out 1; have hfz9_2 := blk_frozen BK180.out 2) | ((with_reducible refine gate_builtin (b := .append) (xs := #[.tmp 14, .tmp 18]) rfl ?_); at_builtin; refine Kd.R_append k55 (w0 := w) w.heap.size rfl (.tmp 14) (.tmp 18) 28 55 (.agg #[(.bool false), (.int .u64 0), (.string ⟨#[]⟩)]) 32 rfl Try.underlying28 info55 rfl (by decide) (by omega) u3 x3_1 (⟨true, (rd_T55 l0 x8_1).f1, (⟨#[]⟩ : ByteArray)⟩ : S55) [.bool true, .int .u64 ((rd_T55 l0 x8_1).f1), .string (⟨#[]⟩ : ByteArray)] (fun k_ => k_ ≠ gb180) (fun _ => False) rfl (by first | (go_simp; done) | (go_simp; rfl)) ?aP (fun _ hk => hk.elim) ?aF ?aO ?aB ?aS ?aL ?_; (case aP => exact k55_mkM _ _ _ (⟨true, (rd_T55 l0 x8_1).f1, (⟨#[]⟩ : ByteArray)⟩ : S55)); (case aB => exact (by repeat (first | (with_reducible first | exact HB.out | apply below_alloc | apply pw_below_drewN | apply below_drew1 | refine below_set ?_ GE180.out) | exact HB.out))); (case aF => exact (fun k_ hk => Kd.freshB (g := gb180) (o := .cells #[.bool true, .int .u64 ((rd_T55 l0 x8_1).f1), .string ((rd_T55 l0 x8_1).f2)] 55 (0, 0)) (by (with_reducible repeat (first | refine blk_drewN ?_ _ | refine blk_drew ?_ | refine blk_alloc ?_ _)); refine blk_put (cs := #[.bool true, .int .u64 ((rd_T55 l0 x8_1).f1), .string (⟨#[]⟩ : ByteArray)]) ?_ 2 _ rfl; (with_reducible repeat (first | refine blk_drewN ?_ _ | refine blk_drew ?_ | refine blk_alloc ?_ _)); refine blk_put (cs := #[.bool true, .int .u64 0, .string (⟨#[]⟩ : ByteArray)]) ?_ 1 _ rfl; (with_reducible repeat (first | refine blk_drewN ?_ _ | refine blk_drew ?_ | refine blk_alloc ?_ _)); refine blk_put (cs := #[.bool false, .int .u64 0, .string (⟨#[]⟩ : ByteArray)]) ?_ 0 _ rfl; (with_reducible repeat (first | refine blk_drewN ?_ _ | refine blk_drew ?_ | refine blk_alloc ?_ _)); exact BK180.out) k_ hk)); (case aO => exact (by (with_reducible repeat (first | apply Kd.R_alloc | apply Kd.R_drewN | apply Kd.R_drew)); exact Kd.R_mono (Kd.R_far (p := ⟨gb180, 2, none⟩) (Kd.R_far (p := ⟨gb180, 1, none⟩) (Kd.R_far (p := ⟨gb180, 0, none⟩) (Kd.R_mono HO_3.out (fun k_ hk => (⟨hk, hk.2⟩ : _ ∧ k_ ≠ gb180))) (fun _ hk => hk.2) (.bool true)) (fun _ hk => hk.2) (.int .u64 ((rd_T55 l0 x8_1).f1))) (fun _ hk => hk.2) (.string ((rd_T55 l0 x8_1).f2))) (fun _ hk => hk.1.2))); (case aS => exact (below_size (by repeat (first | (with_reducible first | exact HB.out | apply below_alloc | apply pw_below_drewN | apply below_drew1 | refine below_set ?_ GE180.out) | exact HB.out)))); (case aL => have := LMc7.out; omega); intro v182 w10 ho hb hg hat; rw [← Ny181.out] at ho; have n0_ := Aside0.mk (blk_grown (g := gb180) (o := .cells #[.bool true, .int .u64 ((rd_T55 l0 x8_1).f1), .string ((rd_T55 l0 x8_1).f2)] 55 (0, 0)) (by (with_reducible repeat (first | refine blk_drewN ?_ _ | refine blk_drew ?_ | refine blk_alloc ?_ _)); refine blk_put (cs := #[.bool true, .int .u64 ((rd_T55 l0 x8_1).f1), .string (⟨#[]⟩ : ByteArray)]) ?_ 2 _ rfl; (with_reducible repeat (first | refine blk_drewN ?_ _ | refine blk_drew ?_ | refine blk_alloc ?_ _)); refine blk_put (cs := #[.bool true, .int .u64 0, .string (⟨#[]⟩ : ByteArray)]) ?_ 1 _ rfl; (with_reducible repeat (first | refine blk_drewN ?_ _ | refine blk_drew ?_ | refine blk_alloc ?_ _)); refine blk_put (cs := #[.bool false, .int .u64 0, .string (⟨#[]⟩ : ByteArray)]) ?_ 0 _ rfl; (with_reducible repeat (first | refine blk_drewN ?_ _ | refine blk_drew ?_ | refine blk_alloc ?_ _)); exact BK180.out) hg (Kd.R_away HO_3.out (fun _ hk => hk.2))); have n1_ := Aside0.mk (hb); have n2_ := Aside0.mk (ho); clear BK180; clear HB; clear HO_3; have BK180 := n0_; have HB := n1_; have HO183 := n2_; clear n0_ n1_ n2_; clear ho hb hg hat))
                go_roundg k1
                case measure => have := HK1.out; omega
                case rel => exact ⟨(y181), (wrap64 (x8_1 + 1)), (by first | rfl | (simp; done) | (simp [*]; done)), H', ⟨by have := HK1.out; omega⟩, ⟨by (with_reducible repeat (first | apply Kd.R_alloc | apply Kd.R_drewN | apply Kd.R_drew)); exact Kd.R_mono HO183.out (fun _ hk => trivial)⟩, ⟨by repeat (first | (with_reducible first | exact HB.out | apply below_alloc | apply pw_below_drewN | apply below_drew1 | refine below_set ?_ GE180.out) | exact HB.out)⟩⟩
              · rw [if_neg c7] at H
                exact absurd H (by simp)
            · replace c6 := Bool.eq_false_iff.mpr c6
              subst c6
              have H1 : (if x3_1.length < 4398046511104 then (depotlaw03_plain.l0 k1 (x3_1 ++ [(⟨false, 0, (rd_T55 l0 x8_1).f2⟩ : S55)]) l0 (l0.length : Int) (wrap64 (x8_1 + 1))) else (none)) = some r := by rw [if_neg (show ¬ (false = true) by decide)] at H; exact H
              clear H
              have H := H1
              clear H1
              by_cases c11 : x3_1.length < 4398046511104
              · rw [if_pos c11] at H
                have LMc11 := Aside0.mk c11
                clear c11
                obtain ⟨y184, hy184⟩ : ∃ y_ : List (S55), y_ = (x3_1 ++ [(⟨false, 0, (rd_T55 l0 x8_1).f2⟩ : S55)]) := ⟨_, rfl⟩
                replace H : (depotlaw03_plain.l0 k1 y184 l0 (l0.length : Int) (wrap64 (x8_1 + 1))) = some r := by first | (rw [hy184]; with_reducible exact H) | (have H2_ := (Option.bind_some _ _).symm.trans H; rw [hy184]; with_reducible exact H2_) | (have H2_ := (Option.bind_some _ _).symm.trans H; with_reducible exact H2_) | with_reducible exact H | (rw [hy184]; exact H) | exact H
                have Ny184 := Aside0.mk hy184
                clear hy184
                have H' := Aside0.mk H
                clear H
                have p179 : 0 ≤ (x8_1 : Int) := of_decide_eq_true (by first | (with_reducible assumption) | assumption)
                have q179 : x8_1 < (l0.length : Int) := of_decide_eq_true (by first | (with_reducible assumption) | assumption)
                obtain ⟨ad179, e179, hx179_0, hx179_1, hx179_2⟩ := at_T55 HR0.out x8_1 p179 q179
                (try rw [← Nbq5.out] at hx179_0)
                cases e179
                replace hx179_0 := (HB.out.cell (World.block_lt_of_cell? w _ hx179_0)).trans hx179_0
                replace hx179_1 := (HB.out.cell (World.block_lt_of_cell? w _ hx179_1)).trans hx179_1
                replace hx179_2 := (HB.out.cell (World.block_lt_of_cell? w _ hx179_2)).trans hx179_2
                replace p179 := eq_true p179
                replace q179 := eq_true q179
                go_wp2_with (first | ((with_reducible refine gate_dst (N := 5) rfl ?_); refine box_event ?hg (N := 5) ?hd (cs := #[.bool false, .int .u64 0, .string (⟨#[]⟩ : ByteArray)]) (t := 55) ?hr ?_; (case hd => rfl); (case hg => rfl); (case hr => first | (go_simp; done) | (go_simp; rfl)); intro gb180 hg w12 hbox hb; have n0_ := Aside0.mk (Kd.R_below (Kd.R_elderB (by (with_reducible repeat (first | apply Kd.R_alloc | apply Kd.R_drewN | apply Kd.R_drew)); exact HO_3.out) gb180 (Nat.le_of_eq hg.symm)) hb); have n1_ := Aside0.mk (below_step (by repeat (first | (with_reducible first | exact HB.out | apply below_alloc | apply pw_below_drewN | apply below_drew1) | exact HB.out)) hb); have n2_ := Aside0.mk (hbox); have n3_ := Aside0.mk ((by rw [hg]; exact (below_size (by repeat (first | (with_reducible first | exact HB.out | apply below_alloc | apply pw_below_drewN | apply below_drew1) | exact HB.out))) : w.heap.size ≤ gb180)); have n4_ := Aside0.mk ((by rw [hg]; exact (below_size (by repeat (first | (with_reducible first | exact HB.out | apply below_alloc | apply pw_below_drewN | apply below_drew1) | exact HB.out))) : w.heap.size ≤ gb180)); clear HO_3; clear HB; have HO_3 := n0_; have HB := n1_; have BK180 := n2_; have GW180 := n3_; have GE180 := n4_; clear n0_ n1_ n2_ n3_ n4_; clear hb hbox hg; have hcz13_0 : w12.cell? ⟨gb180, 0, none⟩ = some (.bool false) := (blk_cell BK180.out 0).trans rfl; have hcz13_1 : w12.cell? ⟨gb180, 1, none⟩ = some (.int .u64 0) := (blk_cell BK180.out 1).trans rfl; have hcz13_2 : w12.cell? ⟨gb180, 2, none⟩ = some (.string (⟨#[]⟩ : ByteArray)) := (blk_cell BK180.out 2).trans rfl; have hfz13_0 := blk_frozen BK180.out 0; have hfz13_1 := blk_frozen BK180.out 1; have hfz13_2 := blk_frozen BK180.out 2) | ((with_reducible refine gate_builtin (b := .append) (xs := #[.tmp 20, .tmp 24]) rfl ?_); at_builtin; refine Kd.R_append k55 (w0 := w) w.heap.size rfl (.tmp 20) (.tmp 24) 28 55 (.agg #[(.bool false), (.int .u64 0), (.string ⟨#[]⟩)]) 32 rfl Try.underlying28 info55 rfl (by decide) (by omega) u3 x3_1 (⟨false, 0, (rd_T55 l0 x8_1).f2⟩ : S55) [.bool false, .int .u64 0, .string ((rd_T55 l0 x8_1).f2)] (fun k_ => k_ ≠ gb180) (fun _ => False) rfl (by first | (go_simp; done) | (go_simp; rfl)) ?aP (fun _ hk => hk.elim) ?aF ?aO ?aB ?aS ?aL ?_; (case aP => exact k55_mkM _ _ _ (⟨false, 0, (rd_T55 l0 x8_1).f2⟩ : S55)); (case aB => exact (by repeat (first | (with_reducible first | exact HB.out | apply below_alloc | apply pw_below_drewN | apply below_drew1 | refine below_set ?_ GE180.out) | exact HB.out))); (case aF => exact (fun k_ hk => Kd.freshB (g := gb180) (o := .cells #[.bool false, .int .u64 ((rd_T55 l0 x8_1).f1), .string ((rd_T55 l0 x8_1).f2)] 55 (0, 0)) (by (with_reducible repeat (first | refine blk_drewN ?_ _ | refine blk_drew ?_ | refine blk_alloc ?_ _)); refine blk_put (cs := #[.bool false, .int .u64 ((rd_T55 l0 x8_1).f1), .string (⟨#[]⟩ : ByteArray)]) ?_ 2 _ rfl; (with_reducible repeat (first | refine blk_drewN ?_ _ | refine blk_drew ?_ | refine blk_alloc ?_ _)); refine blk_put (cs := #[.bool false, .int .u64 0, .string (⟨#[]⟩ : ByteArray)]) ?_ 1 _ rfl; (with_reducible repeat (first | refine blk_drewN ?_ _ | refine blk_drew ?_ | refine blk_alloc ?_ _)); refine blk_put (cs := #[.bool false, .int .u64 0, .string (⟨#[]⟩ : ByteArray)]) ?_ 0 _ rfl; (with_reducible repeat (first | refine blk_drewN ?_ _ | refine blk_drew ?_ | refine blk_alloc ?_ _)); exact BK180.out) k_ hk)); (case aO => exact (by (with_reducible repeat (first | apply Kd.R_alloc | apply Kd.R_drewN | apply Kd.R_drew)); exact Kd.R_mono (Kd.R_far (p := ⟨gb180, 2, none⟩) (Kd.R_far (p := ⟨gb180, 1, none⟩) (Kd.R_far (p := ⟨gb180, 0, none⟩) (Kd.R_mono HO_3.out (fun k_ hk => (⟨hk, hk.2⟩ : _ ∧ k_ ≠ gb180))) (fun _ hk => hk.2) (.bool false)) (fun _ hk => hk.2) (.int .u64 ((rd_T55 l0 x8_1).f1))) (fun _ hk => hk.2) (.string ((rd_T55 l0 x8_1).f2))) (fun _ hk => hk.1.2))); (case aS => exact (below_size (by repeat (first | (with_reducible first | exact HB.out | apply below_alloc | apply pw_below_drewN | apply below_drew1 | refine below_set ?_ GE180.out) | exact HB.out)))); (case aL => have := LMc11.out; omega); intro v185 w14 ho hb hg hat; rw [← Ny184.out] at ho; have n0_ := Aside0.mk (blk_grown (g := gb180) (o := .cells #[.bool false, .int .u64 ((rd_T55 l0 x8_1).f1), .string ((rd_T55 l0 x8_1).f2)] 55 (0, 0)) (by (with_reducible repeat (first | refine blk_drewN ?_ _ | refine blk_drew ?_ | refine blk_alloc ?_ _)); refine blk_put (cs := #[.bool false, .int .u64 ((rd_T55 l0 x8_1).f1), .string (⟨#[]⟩ : ByteArray)]) ?_ 2 _ rfl; (with_reducible repeat (first | refine blk_drewN ?_ _ | refine blk_drew ?_ | refine blk_alloc ?_ _)); refine blk_put (cs := #[.bool false, .int .u64 0, .string (⟨#[]⟩ : ByteArray)]) ?_ 1 _ rfl; (with_reducible repeat (first | refine blk_drewN ?_ _ | refine blk_drew ?_ | refine blk_alloc ?_ _)); refine blk_put (cs := #[.bool false, .int .u64 0, .string (⟨#[]⟩ : ByteArray)]) ?_ 0 _ rfl; (with_reducible repeat (first | refine blk_drewN ?_ _ | refine blk_drew ?_ | refine blk_alloc ?_ _)); exact BK180.out) hg (Kd.R_away HO_3.out (fun _ hk => hk.2))); have n1_ := Aside0.mk (hb); have n2_ := Aside0.mk (ho); clear BK180; clear HB; clear HO_3; have BK180 := n0_; have HB := n1_; have HO186 := n2_; clear n0_ n1_ n2_; clear ho hb hg hat))
                go_roundg k1
                case measure => have := HK1.out; omega
                case rel => exact ⟨(y184), (wrap64 (x8_1 + 1)), (by first | rfl | (simp; done) | (simp [*]; done)), H', ⟨by have := HK1.out; omega⟩, ⟨by (with_reducible repeat (first | apply Kd.R_alloc | apply Kd.R_drewN | apply Kd.R_drew)); exact Kd.R_mono HO186.out (fun _ hk => trivial)⟩, ⟨by repeat (first | (with_reducible first | exact HB.out | apply below_alloc | apply pw_below_drewN | apply below_drew1 | refine below_set ?_ GE180.out) | exact HB.out)⟩⟩
              · rw [if_neg c11] at H
                exact absurd H (by simp)
          · rw [if_neg c4] at H
            exact absurd H (by simp)
        · rw [if_neg c3] at H
          exact absurd H (by simp)
      · rw [if_neg c2] at H
        have c2b0 : decide (x8_1 < (l0.length : Int)) = false := decide_eq_false c2
        clear c2
        obtain rfl := Option.some.inj H
        go_wp2
        go_ret
        exact ⟨_, by first | rfl | (simp [errW_none, errW_some] <;> rfl) | (simp [*, errW_none, errW_some] <;> rfl), by (with_reducible repeat (first | apply Kd.R_alloc | apply Kd.R_drewN | apply Kd.R_drew)); exact HO_3.out, by repeat (first | (with_reducible first | exact HB.out | apply below_alloc | apply pw_below_drewN | apply below_drew1) | exact HB.out)⟩

end Go.Proofs.Ytnilogameaaooaa.Q
/- By a program of this session's: a plain Lean function for a Go function, and its contract. -/
namespace Go.Proofs.Ytnilogameaaooaa.Q
open Go.RowKit Go.Proofs.YtnilogameaaooaaW.PrintWords Go.Proofs.YtnilogameaaooaaW.PrintLast Go.Proofs.YtnilogameaaooaaW.PrintMore
attribute [local go_sem] max2_int min2_int max_two min_two max_three min_three max_four min_four Go.Proofs.Ytnilogameaaooaa.Ord.str_leq Go.Proofs.Ytnilogameaaooaa.Ord.str_gtr Go.Proofs.Ytnilogameaaooaa.Ord.str_geq   -- for this text's walks alone
set_option linter.unusedVariables false
set_option linter.unusedSimpArgs false

theorem eqA55 (d : Nat) (w : World) (x0 y0 : Bool) (x1 y1 : Int) (x2 y2 : ByteArray) :
    (Op.equalIn (d + 2) 55 (.agg #[.bool x0, .int .u64 x1, .string x2]) (.agg #[.bool y0, .int .u64 y1, .string y2])).run Try.prog w = .ok (x0 == y0 && (x1 == y1 && (x2.toList == y2.toList))) w := by
  refine eqA_of Try.underlying55 (by kernel_rfl) ?_
  refine eqf_cons (by rfl) (by go_simp; rfl) (by go_simp; rfl) (by go_simp) ?_
  refine eqf_cons (by rfl) (by go_simp; rfl) (by go_simp; rfl) (by go_simp) ?_
  exact eqf_last (by rfl) (by go_simp; rfl) (by go_simp; rfl) (by go_simp)
end Go.Proofs.Ytnilogameaaooaa.Q
/- By a program of this session's: a plain Lean function for a Go function, and its contract. -/
namespace Go.Proofs.Ytnilogameaaooaa.Q
open Go.RowKit Go.Proofs.YtnilogameaaooaaW.PrintWords Go.Proofs.YtnilogameaaooaaW.PrintLast Go.Proofs.YtnilogameaaooaaW.PrintMore
attribute [local go_sem] max2_int min2_int max_two min_two max_three min_three max_four min_four Go.Proofs.Ytnilogameaaooaa.Ord.str_leq Go.Proofs.Ytnilogameaaooaa.Ord.str_gtr Go.Proofs.Ytnilogameaaooaa.Ord.str_geq   -- for this text's walks alone
set_option linter.unusedVariables false
set_option linter.unusedSimpArgs false

attribute [local go_sem high] eqA55
/-! ### depotlaw03_alike: function 26 -/
def depotlaw03_alike.l0 : Nat → List (S55) → List (S55) → Int → Int → Option (Bool)
  | 0, _, _, _, _ => none
  | k + 1, x0, x1, x12, x13 => if x13 < x12 then (if 0 ≤ x13 then (if x13 < (x0.length : Int) then (if x13 < (x1.length : Int) then (if (!(((rd_T55 x0 x13).f0) == ((rd_T55 x1 x13).f0)) || (!(((rd_T55 x0 x13).f1) == ((rd_T55 x1 x13).f1)) || (!((((rd_T55 x0 x13).f2).toList) == (((rd_T55 x1 x13).f2).toList))))) = true then (some false) else (depotlaw03_alike.l0 k x0 x1 x12 (wrap64 (x13 + 1)))) else (none)) else (none)) else (none)) else (some true)
def depotlaw03_alike.f (k : Nat) (l0 : List (S55)) (l1 : List (S55)) : Option (Bool) := if (l0.length : Int) = (l1.length : Int) then (depotlaw03_alike.l0 k l0 l1 (l0.length : Int) 0) else (some false)
theorem depotlaw03_alike.mono_l : ∀ k, (∀ y0 y1 y2 y3, LeO (depotlaw03_alike.l0 k y0 y1 y2 y3) (depotlaw03_alike.l0 (k + 1) y0 y1 y2 y3))
  | 0 => fun _ _ _ _ r h => by simp [depotlaw03_alike.l0] at h
  | k + 1 => by
    have ih0 := depotlaw03_alike.mono_l k
    · intro y0 y1 y2 y3
      unfold depotlaw03_alike.l0
      repeat' first
      | (with_reducible exact ih0 _ _ _ _)
      | (with_reducible exact LeO.refl _)
      | (with_reducible exact LeO.none _)
      | (with_reducible refine LeO.ite ?_ ?_)
      | (with_reducible refine LeO.bind ?_ (fun _ => ?_))
      | exact ih0 _ _ _ _
      | exact LeO.none _
      | refine LeO.ite ?_ ?_
      | refine LeO.bind ?_ (fun _ => ?_)
theorem depotlaw03_alike.mono : ∀ a0 a1 k, LeO (depotlaw03_alike.f k a0 a1) (depotlaw03_alike.f (k + 1) a0 a1) := by
  intro a0 a1 k
  have ih0 := depotlaw03_alike.mono_l k
  unfold depotlaw03_alike.f
  repeat' first
      | (with_reducible exact ih0 _ _ _ _)
      | (with_reducible exact LeO.refl _)
      | (with_reducible exact LeO.none _)
      | (with_reducible refine LeO.ite ?_ ?_)
      | (with_reducible refine LeO.bind ?_ (fun _ => ?_))
      | exact ih0 _ _ _ _
      | exact LeO.none _
      | refine LeO.ite ?_ ?_
      | refine LeO.bind ?_ (fun _ => ?_)
set_option maxHeartbeats 8000000 in
set_option maxRecDepth 100000 in
theorem depotlaw03_alike.calls (k : Nat) (A0 : Option Addr) (c0 : Nat) (l0 : List (S55)) (A1 : Option Addr) (c1 : Nat) (l1 : List (S55)) (r : Bool) (w : World) (hr0 : Kd.C k55 w A0 l0.length l0) (hc0 : l0.length ≤ c0) (hr1 : Kd.C k55 w A1 l1.length l1) (hc1 : l1.length ≤ c1) (h : depotlaw03_alike.f k l0 l1 = some r) :
    Calls Try.prog 26 #[.slice A0 l0.length c0, .slice A1 l1.length c1] w fun e w' => e = .returned (.bool r) ∧ Drawn0 w w' := by
  have hu55 := Try.underlying55
  have HR0 := Aside0.mk hr0
  have HC0 := Aside0.mk hc0
  clear hr0 hc0
  have HR1 := Aside0.mk hr1
  have HC1 := Aside0.mk hc1
  clear hr1 hc1
  have H : (if (l0.length : Int) = (l1.length : Int) then (depotlaw03_alike.l0 k l0 l1 (l0.length : Int) 0) else (some false)) = some r := h
  clear h
  by_cases c3 : (l0.length : Int) = (l1.length : Int)
  · rw [if_pos c3] at H
    have c3b0 : ((l0.length : Int) == (l1.length : Int)) = true := beq_iff_eq.mpr c3
    have c3b1 : ((l0.length : Int) != (l1.length : Int)) = false := bne_eq_false_iff_eq.mpr c3
    have c3b2 : (l0.length == l1.length) = true := by first | simpa using c3 | (simp at c3 ⊢; omega)
    clear c3
    have H' := Aside0.mk H
    clear H
    go_enter Try.func26, Try.ntmps26
    go_wp2
    repeat (go_quiet (fail); try go_wp2)
    go_loopg [13] k (fun kq v13 w' => ∃ (x13_1 : Int), v13 = .int .i64 x13_1 ∧ Aside0 (depotlaw03_alike.l0 kq l0 l1 (l0.length : Int) x13_1 = some r) ∧ Aside0 (kq ≤ k) ∧ Drawn0 w w')
    case atStart => exact ⟨(0), (by first | rfl | (simp; done) | (simp [*]; done)), H', ⟨Nat.le_refl _⟩, by repeat (first | exact Drawn0.refl _ | apply Drawn0.step)⟩
    case round =>
      clear H'
      try clear c1
      try clear c2
      try clear p2
      try clear c3
      try clear c3b0
      try clear c3b1
      try clear c3b2
      obtain ⟨x13_1, rfl, HA, HK1, ⟨m1, rfl⟩⟩ := hrel
      cases gk with
      | zero => exact absurd HA.out (by simp [depotlaw03_alike.l0])
      | succ k1 =>
        have H := HA.out
        clear HA
        simp only [depotlaw03_alike.l0] at H
        by_cases c4 : x13_1 < (l0.length : Int)
        · rw [if_pos c4] at H
          have c4b0 : decide (x13_1 < (l0.length : Int)) = true := decide_eq_true c4
          clear c4
          by_cases c5 : 0 ≤ x13_1
          · rw [if_pos c5] at H
            have c5b0 : decide (0 ≤ x13_1) = true := decide_eq_true c5
            clear c5
            by_cases c6 : x13_1 < (l0.length : Int)
            · rw [if_pos c6] at H
              have c6b0 : decide (x13_1 < (l0.length : Int)) = true := decide_eq_true c6
              clear c6
              by_cases c7 : x13_1 < (l1.length : Int)
              · rw [if_pos c7] at H
                have c7b0 : decide (x13_1 < (l1.length : Int)) = true := decide_eq_true c7
                clear c7
                by_cases c8 : (!(((rd_T55 l0 x13_1).f0) == ((rd_T55 l1 x13_1).f0)) || (!(((rd_T55 l0 x13_1).f1) == ((rd_T55 l1 x13_1).f1)) || (!((((rd_T55 l0 x13_1).f2).toList) == (((rd_T55 l1 x13_1).f2).toList))))) = true
                · rw [if_pos c8] at H
                  have c8b0 : (!(((rd_T55 l0 x13_1).f0) == ((rd_T55 l1 x13_1).f0)) || (!(((rd_T55 l0 x13_1).f1) == ((rd_T55 l1 x13_1).f1)) || (!((((rd_T55 l0 x13_1).f2).toList) == (((rd_T55 l1 x13_1).f2).toList))))) = true := c8
                  clear c8
                  obtain rfl := Option.some.inj H
                  have p205 : 0 ≤ (x13_1 : Int) := of_decide_eq_true (by first | (with_reducible assumption) | assumption)
                  have q205 : x13_1 < (l0.length : Int) := of_decide_eq_true (by first | (with_reducible assumption) | assumption)
                  obtain ⟨ad205, e205, hx205_0, hx205_1, hx205_2⟩ := at_T55 HR0.out x13_1 p205 q205
                  cases e205
                  replace p205 := eq_true p205
                  replace q205 := eq_true q205
                  have p206 : 0 ≤ (x13_1 : Int) := of_decide_eq_true (by first | (with_reducible assumption) | assumption)
                  have q206 : x13_1 < (l1.length : Int) := of_decide_eq_true (by first | (with_reducible assumption) | assumption)
                  obtain ⟨ad206, e206, hx206_0, hx206_1, hx206_2⟩ := at_T55 HR1.out x13_1 p206 q206
                  cases e206
                  replace p206 := eq_true p206
                  replace q206 := eq_true q206
                  go_wp2
                  repeat (go_quiet (fail); try go_wp2)
                  go_ret
                  exact ⟨by first | rfl | (simp; done) | (simp [*]; done), by repeat (first | exact Drawn0.refl _ | apply Drawn0.step)⟩
                · rw [if_neg c8] at H
                  have c8b0 : (!(((rd_T55 l0 x13_1).f0) == ((rd_T55 l1 x13_1).f0)) || (!(((rd_T55 l0 x13_1).f1) == ((rd_T55 l1 x13_1).f1)) || (!((((rd_T55 l0 x13_1).f2).toList) == (((rd_T55 l1 x13_1).f2).toList))))) = false := by simpa using c8
                  clear c8
                  have H' := Aside0.mk H
                  clear H
                  have p205 : 0 ≤ (x13_1 : Int) := of_decide_eq_true (by first | (with_reducible assumption) | assumption)
                  have q205 : x13_1 < (l0.length : Int) := of_decide_eq_true (by first | (with_reducible assumption) | assumption)
                  obtain ⟨ad205, e205, hx205_0, hx205_1, hx205_2⟩ := at_T55 HR0.out x13_1 p205 q205
                  cases e205
                  replace p205 := eq_true p205
                  replace q205 := eq_true q205
                  have p206 : 0 ≤ (x13_1 : Int) := of_decide_eq_true (by first | (with_reducible assumption) | assumption)
                  have q206 : x13_1 < (l1.length : Int) := of_decide_eq_true (by first | (with_reducible assumption) | assumption)
                  obtain ⟨ad206, e206, hx206_0, hx206_1, hx206_2⟩ := at_T55 HR1.out x13_1 p206 q206
                  cases e206
                  replace p206 := eq_true p206
                  replace q206 := eq_true q206
                  go_wp2
                  repeat (go_quiet (fail); try go_wp2)
                  go_roundg k1
                  case measure => have := HK1.out; omega
                  case rel => exact ⟨(wrap64 (x13_1 + 1)), (by first | rfl | (simp; done) | (simp [*]; done)), H', ⟨by have := HK1.out; omega⟩, by repeat (first | exact Drawn0.refl _ | apply Drawn0.step)⟩
              · rw [if_neg c7] at H
                exact absurd H (by simp)
            · rw [if_neg c6] at H
              exact absurd H (by simp)
          · rw [if_neg c5] at H
            exact absurd H (by simp)
        · rw [if_neg c4] at H
          have c4b0 : decide (x13_1 < (l0.length : Int)) = false := decide_eq_false c4
          clear c4
          obtain rfl := Option.some.inj H
          go_wp2
          repeat (go_quiet (fail); try go_wp2)
          go_ret
          exact ⟨by first | rfl | (simp; done) | (simp [*]; done), by repeat (first | exact Drawn0.refl _ | apply Drawn0.step)⟩
  · rw [if_neg c3] at H
    have c3b0 : ((l0.length : Int) == (l1.length : Int)) = false := beq_eq_false_iff_ne.mpr c3
    have c3b1 : ((l0.length : Int) != (l1.length : Int)) = true := bne_iff_ne.mpr c3
    have c3b2 : (l0.length == l1.length) = false := by first | simpa using c3 | (simp at c3 ⊢; omega)
    obtain rfl := Option.some.inj H
    go_enter Try.func26, Try.ntmps26
    go_wp2
    repeat (go_quiet (fail); try go_wp2)
    go_ret
    exact ⟨by first | rfl | (simp; done) | (simp [*]; done), by repeat (first | exact Drawn0.refl _ | apply Drawn0.step)⟩

end Go.Proofs.Ytnilogameaaooaa.Q
/- Framed items: their bytes, their letters, what the reading makes of them. -/
set_option linter.unusedVariables false
set_option linter.unusedSimpArgs false
namespace Go.Proofs.Ytnilogameaaooaa.Pure
open Go.RowKit Go.Proofs.Ytnilogameaaooaa.Q Go.Proofs.Ytnilogameaaooaa.Rdr Go.Proofs.Ytnilogameaaooaa.Tail Go.Proofs.YtnilogameaaooaaW.PrintWords Go.Proofs.YtnilogameaaooaaW.PrintLast Go.Proofs.YtnilogameaaooaaW.PrintMore Go.Proofs.Ytnilogameaaooaa.Bytes Go.Proofs.Ytnilogameaaooaa.Evs

abbrev It := S55
def letter (x : It) : UInt8 := if x.f0 = true then 105 else 116
def frame1 (x : It) : List Int := if x.f0 = true then le8 x.f1 else frame8 x.f2
def plain1 (x : It) : It := if x.f0 = true then ⟨true, x.f1, ⟨#[]⟩⟩ else ⟨false, 0, x.f2⟩
def frameB (l : List It) : List Int := l.flatMap frame1
def frameP (l : List It) : List Int := l.map fun x => ((letter x).toNat : Int)
/-- An item as it may come: its number and its size are what Go lets be. -/
def Fit (x : It) : Prop := (0 ≤ x.f1 ∧ x.f1 < 18446744073709551616) ∧ x.f2.size ≤ 1099511627776
theorem frameB_cons (x : It) (l : List It) : frameB (x :: l) = frame1 x ++ frameB l := by simp [frameB]
theorem frameB_app (k l : List It) : frameB (k ++ l) = frameB k ++ frameB l := by simp [frameB]
theorem frameB_one (x : It) : frameB [x] = frame1 x := by simp [frameB]
theorem frame8_range (s : ByteArray) : ∀ x ∈ frame8 s, 0 ≤ x ∧ x < 256 := by
  intro x hx
  unfold frame8 at hx
  rcases List.mem_append.1 hx with hx | hx
  · exact le8_range _ x hx
  · rcases List.mem_append.1 hx with hx | hx
    · exact numsOf_range s x hx
    · have := (List.mem_replicate.1 hx).2
      omega
theorem frame1_range (x : It) : Byts (frame1 x) := by
  unfold frame1
  split
  · exact le8_range _
  · exact frame8_range _
theorem frameB_range (l : List It) : Byts (frameB l) := by
  intro x hx
  unfold frameB at hx
  obtain ⟨y, _, hy⟩ := List.mem_flatMap.1 hx
  exact frame1_range y x hy
theorem frameP_bs (l : List It) : bs (strOfNums (frameP l)) = l.map letter := by
  rw [bs_strOfNums]
  unfold frameP
  rw [List.map_map]
  congr 1
  funext x
  simp [Function.comp]
theorem frame8_len (s : ByteArray) : (frame8 s).length = 8 + (s.size + padOf s.size) := by
  unfold frame8
  rw [List.length_append, le8_len, List.length_append, numsOf_len, List.length_replicate]
theorem frame1_len8 (x : It) : 8 ≤ (frame1 x).length := by
  unfold frame1
  split
  · rw [le8_len]; exact Nat.le_refl _
  · rw [frame8_len]; omega
theorem letters (l : List It) : ∀ i, bad1 (l.map letter) i = none := by
  induction l with
  | nil => intro i; rfl
  | cons x l ih =>
    intro i
    rw [List.map_cons]
    simp only [bad1]
    rw [if_pos (by unfold letter; split <;> simp)]
    exact ih (i + 1)
theorem parse_text (m : Int) (s : ByteArray) (l : List UInt8) (rest : List Int) (t : Int) (hs : s.size ≤ 1099511627776) (hm : (s.size : Int) ≤ m) :
    parse m (116 :: l) (frame8 s ++ rest) t = (⟨false, 0, s⟩ :: (parse m l rest (t + ((frame8 s).length : Int))).1, (parse m l rest (t + ((frame8 s).length : Int))).2) := by
  simp only [parse]
  have hv : List.take 8 (frame8 s ++ rest) = le8 (s.size : Int) := by
    unfold frame8
    rw [List.append_assoc, ← le8_len (s.size : Int), List.take_left]
  have hd : List.drop 8 (frame8 s ++ rest) = numsOf s ++ (List.replicate (padOf s.size) 0 ++ rest) := by
    unfold frame8
    rw [List.append_assoc, ← le8_len (s.size : Int), List.drop_left, List.append_assoc]
  have hn : List.drop s.size (numsOf s ++ (List.replicate (padOf s.size) 0 ++ rest)) = List.replicate (padOf s.size) 0 ++ rest := by
    conv => lhs; arg 1; rw [← numsOf_len s]
    rw [List.drop_left]
  have hk : List.take s.size (numsOf s ++ (List.replicate (padOf s.size) 0 ++ rest)) = numsOf s := by
    conv => lhs; arg 1; rw [← numsOf_len s]
    rw [List.take_left]
  have hp : List.take (padOf s.size) (List.replicate (padOf s.size) 0 ++ rest) = List.replicate (padOf s.size) (0 : Int) := by
    conv => lhs; arg 1; rw [← List.length_replicate (n := padOf s.size) (a := (0 : Int))]
    rw [List.take_left]
  have hq : List.drop (s.size + padOf s.size) (numsOf s ++ (List.replicate (padOf s.size) 0 ++ rest)) = rest := by
    rw [← List.drop_drop, hn]
    conv => lhs; arg 1; rw [← List.length_replicate (n := padOf s.size) (a := (0 : Int))]
    rw [List.drop_left]
  have hz : ∀ n, firstNZ (List.replicate n 0) = none := by
    intro n
    induction n with
    | zero => rfl
    | succ n ih => rw [List.replicate_succ]; simp only [firstNZ]; rw [if_pos trivial, ih]; rfl
  rw [hv, hd, val_le8 _ (by omega) (by omega), Int.toNat_natCast, hn, hk, hp, hq, hz]
  rw [if_neg (by rw [List.length_append, frame8_len]; omega), if_neg (by decide), if_neg (by omega)]
  simp only
  rw [if_neg (by rw [List.length_append, numsOf_len, List.length_append, List.length_replicate]; omega)]
  have hstr : strOfNums (numsOf s) = s := by
    apply bs_inj
    rw [bs_strOfNums, bs_numsOf]
  have ht : t + 8 + (s.size : Int) + (padOf s.size : Int) = t + ((frame8 s).length : Int) := by rw [frame8_len]; omega
  rw [hstr, ht]
theorem parse_int (m : Int) (n : Int) (l : List UInt8) (rest : List Int) (t : Int) (h0 : 0 ≤ n) (h1 : n < 18446744073709551616) :
    parse m (105 :: l) (le8 n ++ rest) t = (⟨true, n, ⟨#[]⟩⟩ :: (parse m l rest (t + 8)).1, (parse m l rest (t + 8)).2) := by
  simp only [parse]
  have hv : List.take 8 (le8 n ++ rest) = le8 n := by rw [← le8_len n, List.take_left]
  have hd : List.drop 8 (le8 n ++ rest) = rest := by rw [← le8_len n, List.drop_left]
  rw [hv, hd, val_le8 n h0 h1, if_neg (by rw [List.length_append, le8_len]; omega), if_pos trivial]
theorem parse_step (m : Int) (x : It) (l : List UInt8) (rest : List Int) (t : Int) (hf : Fit x) (hm : x.f0 = false → (x.f2.size : Int) ≤ m) :
    parse m (letter x :: l) (frame1 x ++ rest) t = (plain1 x :: (parse m l rest (t + ((frame1 x).length : Int))).1, (parse m l rest (t + ((frame1 x).length : Int))).2) := by
  unfold letter frame1 plain1
  by_cases h : x.f0 = true
  · rw [if_pos h, if_pos h, if_pos h, parse_int m x.f1 l rest t hf.1.1 hf.1.2, le8_len]
    rfl
  · rw [if_neg h, if_neg h, if_neg h, parse_text m x.f2 l rest t hf.2 (hm (by simpa using h))]
theorem parse_all (m : Int) (rest : List Int) : ∀ (its : List It) (t : Int), (∀ x ∈ its, Fit x) → (∀ x ∈ its, x.f0 = false → (x.f2.size : Int) ≤ m) →
    parse m (its.map letter) (frameB its ++ rest) t = (its.map plain1 ++ (parse m [] rest (t + ((frameB its).length : Int))).1, (parse m [] rest (t + ((frameB its).length : Int))).2)
  | [], t, _, _ => by
    have : t + ((frameB []).length : Int) = t := by simp [frameB]
    rw [this]
    rfl
  | x :: its, t, hf, hm => by
    rw [List.map_cons, frameB_cons, List.append_assoc, parse_step m x _ _ t (hf x List.mem_cons_self) (hm x List.mem_cons_self), parse_all m rest its _ (fun y hy => hf y (List.mem_cons_of_mem _ hy)) (fun y hy => hm y (List.mem_cons_of_mem _ hy))]
    have : t + ((frame1 x).length : Int) + ((frameB its).length : Int) = t + ((frame1 x ++ frameB its).length : Int) := by rw [List.length_append]; omega
    rw [this]
    rfl
/-- A text that is too long. -/
theorem parse_long (m : Int) : ∀ (its : List It) (t : Int), (∀ x ∈ its, Fit x) → (∃ x ∈ its, x.f0 = false ∧ m < (x.f2.size : Int)) → (parse m (its.map letter) (frameB its) t).2.1 = 6
  | [], t, _, h => by obtain ⟨x, hx, _⟩ := h; cases hx
  | x :: its, t, hf, h => by
    rw [List.map_cons, frameB_cons]
    by_cases hx : x.f0 = false → (x.f2.size : Int) ≤ m
    · rw [parse_step m x _ _ t (hf x List.mem_cons_self) hx]
      refine parse_long m its _ (fun y hy => hf y (List.mem_cons_of_mem _ hy)) ?_
      obtain ⟨y, hy, h1, h2⟩ := h
      rcases List.mem_cons.1 hy with rfl | hy
      · have := hx h1; omega
      · exact ⟨y, hy, h1, h2⟩
    · have h1 : x.f0 = false := Classical.byContradiction fun q => hx fun z => absurd z q
      have h2 : m < (x.f2.size : Int) := Int.not_le.1 fun q => hx fun _ => q
      have hs := (hf x List.mem_cons_self).2
      have e1 : letter x = 116 := by unfold letter; rw [h1]; rfl
      have e2 : frame1 x = frame8 x.f2 := by unfold frame1; rw [h1]; rfl
      rw [e1, e2]
      simp only [parse]
      have hv : List.take 8 (frame8 x.f2 ++ frameB its) = le8 (x.f2.size : Int) := by
        unfold frame8
        rw [List.append_assoc, ← le8_len (x.f2.size : Int), List.take_left]
      rw [hv, val_le8 _ (by omega) (by omega), if_neg (by rw [List.length_append, frame8_len]; omega), if_neg (by decide), if_pos h2]
theorem firstNZ_zeros : ∀ (l : List Int), (∀ x ∈ l, x = 0) → firstNZ l = none
  | [], _ => rfl
  | c :: l, h => by
    simp only [firstNZ]
    rw [if_pos (h c List.mem_cons_self), firstNZ_zeros l (fun y hy => h y (List.mem_cons_of_mem _ hy))]
    rfl
/-- A proper beginning is too short, at its own length. -/
theorem parse_short (m : Int) : ∀ (its : List It) (cut : Nat) (t : Int), (∀ x ∈ its, Fit x) → (∀ x ∈ its, x.f0 = false → (x.f2.size : Int) ≤ m) → cut < (frameB its).length →
    (parse m (its.map letter) ((frameB its).take cut) t).2 = (0, 0, t + (cut : Int)) ∧ (parse m (its.map letter) ((frameB its).take cut) t).1.length < its.length
  | [], cut, t, _, _, h => by simp [frameB] at h
  | x :: its, cut, t, hf, hm, h => by
    rw [List.map_cons, frameB_cons]
    rw [frameB_cons, List.length_append] at h
    by_cases hc : (frame1 x).length ≤ cut
    · obtain ⟨d, rfl⟩ := Nat.le.dest hc
      have hd : d < (frameB its).length := by omega
      rw [List.take_append, List.take_of_length_le (Nat.le_add_right _ _), Nat.add_sub_cancel_left, parse_step m x _ _ t (hf x List.mem_cons_self) (hm x List.mem_cons_self)]
      obtain ⟨i1, i2⟩ := parse_short m its d (t + ((frame1 x).length : Int)) (fun y hy => hf y (List.mem_cons_of_mem _ hy)) (fun y hy => hm y (List.mem_cons_of_mem _ hy)) hd
      refine ⟨?_, by simp only [List.length_cons]; omega⟩
      rw [i1]
      have : t + ((frame1 x).length : Int) + (d : Int) = t + (((frame1 x).length + d : Nat) : Int) := by omega
      rw [this]
    · have hc : cut < (frame1 x).length := Nat.lt_of_not_le hc
      rw [List.take_append_of_le_length (Nat.le_of_lt hc)]
      have hl : ((frame1 x).take cut).length = cut := by rw [List.length_take]; omega
      by_cases h8 : cut < 8
      · simp only [parse]
        rw [hl, if_pos h8]
        exact ⟨rfl, by simp⟩
      · have h1 : x.f0 = false := by
          cases hx : x.f0 with
          | false => rfl
          | true =>
            have : (frame1 x).length = 8 := by unfold frame1; rw [if_pos hx, le8_len]
            omega
        have hs := (hf x List.mem_cons_self).2
        have hms := hm x List.mem_cons_self h1
        have e1 : letter x = 116 := by unfold letter; rw [h1]; rfl
        have e2 : frame1 x = frame8 x.f2 := by unfold frame1; rw [h1]; rfl
        rw [e2] at hc hl
        rw [e1, e2]
        have hfl := frame8_len x.f2
        obtain ⟨c, rfl⟩ := Nat.le.dest (Nat.le_of_not_lt h8)
        have hcut : List.take (8 + c) (frame8 x.f2) = le8 (x.f2.size : Int) ++ (numsOf x.f2 ++ List.replicate (padOf x.f2.size) 0).take c := by
          unfold frame8
          rw [List.take_append, le8_len, List.take_of_length_le (by rw [le8_len]; omega), Nat.add_sub_cancel_left]
        simp only [parse]
        rw [hl, if_neg h8, if_neg (by decide), hcut]
        have hv : List.take 8 (le8 (x.f2.size : Int) ++ (numsOf x.f2 ++ List.replicate (padOf x.f2.size) 0).take c) = le8 (x.f2.size : Int) := by rw [← le8_len (x.f2.size : Int), List.take_left]
        have hd : List.drop 8 (le8 (x.f2.size : Int) ++ (numsOf x.f2 ++ List.replicate (padOf x.f2.size) 0).take c) = (numsOf x.f2 ++ List.replicate (padOf x.f2.size) 0).take c := by rw [← le8_len (x.f2.size : Int), List.drop_left]
        rw [hv, hd, val_le8 _ (by omega) (by omega), Int.toNat_natCast, if_neg (by omega)]
        have hz : firstNZ (List.take (padOf x.f2.size) (List.drop x.f2.size (List.take c (numsOf x.f2 ++ List.replicate (padOf x.f2.size) 0)))) = none := by
          refine firstNZ_zeros _ fun y hy => ?_
          have hy := List.mem_of_mem_take hy
          rw [List.drop_take] at hy
          have hy := List.mem_of_mem_take hy
          have hn : List.drop x.f2.size (numsOf x.f2 ++ List.replicate (padOf x.f2.size) 0) = List.replicate (padOf x.f2.size) (0 : Int) := by
            conv => lhs; arg 1; rw [← numsOf_len x.f2]
            rw [List.drop_left]
          rw [hn] at hy
          exact (List.mem_replicate.1 hy).2
        rw [hz]
        simp only
        rw [if_pos (by rw [List.length_take, List.length_append, numsOf_len, List.length_replicate]; omega)]
        exact ⟨rfl, by simp⟩
theorem le8_val : ∀ (b : List Int), Byts b → b.length = 8 → le8 (val b) = b := by
  intro b hb hl
  match b, hl with
  | [b0, b1, b2, b3, b4, b5, b6, b7], _ =>
    have g0 := hb b0 (by simp)
    have g1 := hb b1 (by simp)
    have g2 := hb b2 (by simp)
    have g3 := hb b3 (by simp)
    have g4 := hb b4 (by simp)
    have g5 := hb b5 (by simp)
    have g6 := hb b6 (by simp)
    have g7 := hb b7 (by simp)
    simp only [val, le8, List.range, List.range.loop, List.map_cons, List.map_nil, Nat.mul_zero, Nat.reduceMul, Int.reducePow, Int.mul_zero, Int.add_zero, Int.pow_zero, Int.ediv_one]
    congr 1
    · omega
    congr 1
    · omega
    congr 1
    · omega
    congr 1
    · omega
    congr 1
    · omega
    congr 1
    · omega
    congr 1
    · omega
    congr 1
    · omega
/-- What is read whole is framed again as it was. -/
theorem parse_one (m : Int) : ∀ (l : List UInt8) (b : List Int) (t : Int), Byts b → (∀ c ∈ l, c = 105 ∨ c = 116) → (parse m l b t).2.1 = 0 → (parse m l b t).1.length = l.length →
    frameB (parse m l b t).1 = b ∧ (parse m l b t).1.map letter = l
  | [], b, t, _, _, h0, _ => by
    simp only [parse] at h0 ⊢
    split at h0
    · rename_i hb
      rw [if_pos hb, hb]
      exact ⟨rfl, rfl⟩
    · exact absurd (show (5 : Int) = 0 from h0) (by decide)
  | c :: l, b, t, hb, hc, h0, hl => by
    simp only [parse] at h0 hl ⊢
    by_cases h8 : b.length < 8
    · rw [if_pos h8] at hl
      exact absurd hl (by simp)
    · rw [if_neg h8] at h0 hl ⊢
      have hb8 : Byts (b.take 8) := byts_take hb 8
      have hbd : Byts (b.drop 8) := byts_drop hb 8
      have hl8 : (b.take 8).length = 8 := by rw [List.length_take]; omega
      have hcl : ∀ d ∈ l, d = 105 ∨ d = 116 := fun d hd => hc d (List.mem_cons_of_mem _ hd)
      by_cases h5 : c = 105
      · rw [if_pos h5] at h0 hl ⊢
        obtain ⟨i1, i2⟩ := parse_one m l _ _ hbd hcl h0 (by simpa using hl)
        refine ⟨?_, ?_⟩
        · rw [frameB_cons, i1]
          unfold frame1
          rw [if_pos rfl, le8_val _ hb8 hl8, List.take_append_drop]
        · rw [List.map_cons, i2, h5]
          rfl
      · rw [if_neg h5] at h0 hl ⊢
        have h6 : c = 116 := (hc c List.mem_cons_self).resolve_left h5
        by_cases hlong : m < val (b.take 8)
        · rw [if_pos hlong] at h0
          exact absurd (show (6 : Int) = 0 from h0) (by decide)
        · rw [if_neg hlong] at h0 hl ⊢
          have hV := val_nonneg _ hb8
          have hval := le8_val _ hb8 hl8
          generalize val (b.take 8) = V at hV hval h0 hl hlong ⊢
          obtain ⟨n, rfl⟩ := Int.eq_ofNat_of_zero_le hV
          rw [Int.toNat_natCast] at h0 hl ⊢
          cases hz : firstNZ (((b.drop 8).drop n).take (padOf n)) with
          | some j =>
            rw [hz] at h0
            exact absurd (show (7 : Int) = 0 from h0) (by decide)
          | none =>
            rw [hz] at h0 hl
            simp only at h0 hl ⊢
            by_cases hsh : (b.drop 8).length < n + padOf n
            · rw [if_pos hsh] at hl
              exact absurd hl (by simp)
            · rw [if_neg hsh] at h0 hl ⊢
              obtain ⟨i1, i2⟩ := parse_one m l _ _ (byts_drop hbd _) hcl h0 (by simpa using hl)
              have hrep := firstNZ_none _ hz
              have hpl : (((b.drop 8).drop n).take (padOf n)).length = padOf n := by rw [List.length_take, List.length_drop]; omega
              rw [hpl] at hrep
              have hnl : ((b.drop 8).take n).length = n := by rw [List.length_take]; omega
              have hsz : (strOfNums ((b.drop 8).take n)).size = n := by
                rw [size_bs, bs_strOfNums, List.length_map, hnl]
              refine ⟨?_, ?_⟩
              · rw [frameB_cons, i1]
                unfold frame1
                rw [if_neg (by simp)]
                unfold frame8
                simp only
                rw [hsz, numsOf_str _ (byts_take hbd n), hval, ← hrep]
                have e1 : List.drop (n + padOf n) (b.drop 8) = List.drop (padOf n) (List.drop n (b.drop 8)) := (List.drop_drop (i := padOf n) (j := n) (l := b.drop 8)).symm
                rw [e1, List.append_assoc, List.append_assoc, List.take_append_drop, List.take_append_drop, List.take_append_drop]
              · rw [List.map_cons, i2, h6]
                rfl
/-! The laws' own helpers. -/
theorem framed_in' (its : List It) (hf : ∀ x ∈ its, Fit x) (hl : (frameB its).length ≤ 1099511627776) (hn : its.length ≤ 1099511627776) : ∀ (d i : Nat), i + d = its.length →
    Ev (fun k => depotlaw03_framed.l0 k (frameB (its.take i)) (frameP (its.take i)) its (its.length : Int) (i : Int)) (strOfNums (frameB its), strOfNums (frameP its)) := by
  intro d
  induction d with
  | zero =>
    intro i hi
    apply succ
    simp only [depotlaw03_framed.l0]
    refine neg (by omega) (now ?_)
    rw [List.take_of_length_le (by omega)]
  | succ d ih =>
    intro i hi
    have ih := ih (i + 1) (by omega)
    have hlt : i < its.length := by omega
    have hw : wrap64 ((i : Int) + 1) = ((i + 1 : Nat) : Int) := wr i (by omega)
    have e1 : rd_T55 its (i : Int) = its[i] := by
      unfold rd_T55
      rw [Int.toNat_natCast, List.getD_eq_getElem?_getD, List.getElem?_eq_getElem hlt]
      rfl
    have hmem : its[i] ∈ its := List.getElem_mem hlt
    have hfx := hf _ hmem
    have e2 : its.take (i + 1) = its.take i ++ [its[i]] := by rw [List.take_add_one, List.getElem?_eq_getElem hlt]; rfl
    have e3 : frameB (its.take (i + 1)) = frameB (its.take i) ++ frame1 its[i] := by rw [e2, frameB_app, frameB_one]
    have e4 : frameP (its.take (i + 1)) = frameP (its.take i) ++ [((letter its[i]).toNat : Int)] := by rw [e2]; unfold frameP; rw [List.map_append]; rfl
    have hbl : (frameB (its.take (i + 1))).length ≤ (frameB its).length := by
      conv => rhs; rw [← List.take_append_drop (i + 1) its]
      rw [frameB_app, List.length_append]
      omega
    have hpl : (frameP (its.take i)).length ≤ its.length := by simp [frameP]; omega
    rw [e3, e4] at ih
    rw [e3, List.length_append] at hbl
    apply succ
    simp only [depotlaw03_framed.l0]
    rw [hw, e1]
    generalize its[i] = x at ih hbl hfx
    refine pos (by omega) (pos (by omega) (pos (by omega) ?_))
    unfold frame1 letter at ih
    unfold frame1 at hbl
    by_cases hx : x.f0 = true
    · rw [if_pos hx] at ih hbl
      rw [if_pos hx] at ih
      have hs : (strOfNums (le8 x.f1)).size = 8 := rfl
      rw [le8_len] at hbl
      have hb : bytesOf (strOfNums (le8 x.f1)) = le8 x.f1 := numsOf_str _ (le8_range _)
      refine pos hx (call rfl (pos (by rw [hs]; omega) (pos (by omega) ?_)))
      rw [hb]
      exact ih
    · rw [if_neg hx] at ih hbl
      rw [if_neg hx] at ih
      have hs := text_size x.f2
      rw [frame8_len] at hbl
      have hb : bytesOf (strOfNums (frame8 x.f2)) = frame8 x.f2 := numsOf_str _ (frame8_range _)
      have hx2 := hfx.2
      refine neg hx (call (show wire_Text.f x.f2 = some (strOfNums (frame8 x.f2)) from if_pos (by omega)) (pos (by rw [hs]; omega) (pos (by omega) ?_)))
      rw [hb]
      exact ih
theorem framed_ev (its : List It) (hf : ∀ x ∈ its, Fit x) (hl : (frameB its).length ≤ 1099511627776) (hn : its.length ≤ 1099511627776) :
    Ev (fun k => depotlaw03_framed.f k its) (strOfNums (frameB its), strOfNums (frameP its)) := by
  simp only [depotlaw03_framed.f]
  exact framed_in' its hf hl hn its.length 0 (by omega)
def lng : List It → Int → Int
  | [], a => a
  | x :: l, a => lng l (if x.f0 = true then a else if (x.f2.size : Int) > a then (x.f2.size : Int) else a)
theorem lng_ge : ∀ (l : List It) (a : Int), a ≤ lng l a
  | [], a => Int.le_refl _
  | x :: l, a => by
    simp only [lng]
    refine Int.le_trans ?_ (lng_ge l _)
    split
    · exact Int.le_refl _
    · split <;> omega
theorem lng_all : ∀ (l : List It) (a : Int), ∀ x ∈ l, x.f0 = false → (x.f2.size : Int) ≤ lng l a
  | [], a, x, hx, _ => by cases hx
  | y :: l, a, x, hx, h => by
    simp only [lng]
    rcases List.mem_cons.1 hx with rfl | hx
    · rw [if_neg (by rw [h]; simp)]
      refine Int.le_trans ?_ (lng_ge l _)
      split <;> omega
    · exact lng_all l _ x hx h
theorem lng_is : ∀ (l : List It) (a : Int), lng l a = a ∨ ∃ x ∈ l, x.f0 = false ∧ (x.f2.size : Int) = lng l a
  | [], a => .inl rfl
  | y :: l, a => by
    simp only [lng]
    rcases lng_is l (if y.f0 = true then a else if (y.f2.size : Int) > a then (y.f2.size : Int) else a) with h | ⟨x, hx, h1, h2⟩
    · rw [h]
      by_cases hy : y.f0 = true
      · left; rw [if_pos hy]
      · rw [if_neg hy]
        by_cases hz : (y.f2.size : Int) > a
        · right
          rw [if_pos hz]
          exact ⟨y, List.mem_cons_self, by simpa using hy, rfl⟩
        · left; rw [if_neg hz]
    · exact .inr ⟨x, List.mem_cons_of_mem _ hx, h1, h2⟩
theorem longest_in (its : List It) (hn : its.length ≤ 1099511627776) : ∀ (d i : Nat) (a : Int), i + d = its.length →
    Ev (fun k => depotlaw03_longest.l0 k a its (its.length : Int) (i : Int)) (lng (its.drop i) a) := by
  intro d
  induction d with
  | zero =>
    intro i a hi
    apply succ
    simp only [depotlaw03_longest.l0]
    refine neg (by omega) (now ?_)
    rw [List.drop_of_length_le (by omega)]
    rfl
  | succ d ih =>
    intro i a hi
    have hlt : i < its.length := by omega
    have hw : wrap64 ((i : Int) + 1) = ((i + 1 : Nat) : Int) := wr i (by omega)
    have e1 : rd_T55 its (i : Int) = its[i] := by
      unfold rd_T55
      rw [Int.toNat_natCast, List.getD_eq_getElem?_getD, List.getElem?_eq_getElem hlt]
      rfl
    have ih := fun a => ih (i + 1) a (by omega)
    apply succ
    simp only [depotlaw03_longest.l0]
    rw [hw, e1, List.drop_eq_getElem_cons hlt]
    simp only [lng]
    generalize its[i] = x
    refine pos (by omega) (pos (by omega) (pos (by omega) ?_))
    by_cases hx : x.f0 = true
    · rw [if_pos hx]
      exact pos hx (ih a)
    · rw [if_neg hx]
      refine neg hx ?_
      by_cases hz : (x.f2.size : Int) > a
      · rw [if_pos hz]
        exact pos hz (ih _)
      · rw [if_neg hz]
        exact neg hz (ih _)
theorem longest_ev (its : List It) (hn : its.length ≤ 1099511627776) : Ev (fun k => depotlaw03_longest.f k its) (lng its 0) := by
  simp only [depotlaw03_longest.f]
  exact longest_in its hn its.length 0 0 (by omega)
theorem plain_in (its : List It) (hn : its.length ≤ 1099511627776) : ∀ (d i : Nat), i + d = its.length →
    Ev (fun k => depotlaw03_plain.l0 k ((its.take i).map plain1) its (its.length : Int) (i : Int)) (its.map plain1) := by
  intro d
  induction d with
  | zero =>
    intro i hi
    apply succ
    simp only [depotlaw03_plain.l0]
    refine neg (by omega) (now ?_)
    rw [List.take_of_length_le (by omega)]
  | succ d ih =>
    intro i hi
    have hlt : i < its.length := by omega
    have hw : wrap64 ((i : Int) + 1) = ((i + 1 : Nat) : Int) := wr i (by omega)
    have e1 : rd_T55 its (i : Int) = its[i] := by
      unfold rd_T55
      rw [Int.toNat_natCast, List.getD_eq_getElem?_getD, List.getElem?_eq_getElem hlt]
      rfl
    have ih := ih (i + 1) (by omega)
    have e2 : (its.take (i + 1)).map plain1 = (its.take i).map plain1 ++ [plain1 its[i]] := by rw [List.take_add_one, List.getElem?_eq_getElem hlt, List.map_append]; rfl
    rw [e2] at ih
    apply succ
    simp only [depotlaw03_plain.l0]
    have hll : ((its.take i).map plain1).length = i := by rw [List.length_map, List.length_take]; omega
    rw [hw, e1, hll]
    generalize its[i] = x at ih
    unfold plain1 at ih ⊢
    refine pos (by omega) (pos (by omega) (pos (by omega) ?_))
    by_cases hx : x.f0 = true
    · rw [if_pos hx] at ih
      exact pos hx (pos (by omega) ih)
    · rw [if_neg hx] at ih
      exact neg hx (pos (by omega) ih)
theorem plain_ev (its : List It) (hn : its.length ≤ 1099511627776) : Ev (fun k => depotlaw03_plain.f k its) (its.map plain1) := by
  simp only [depotlaw03_plain.f]
  exact plain_in its hn its.length 0 (by omega)
theorem alike_in (xs : List It) (hn : xs.length ≤ 1099511627776) : ∀ (d i : Nat), i + d = xs.length →
    Ev (fun k => depotlaw03_alike.l0 k xs xs (xs.length : Int) (i : Int)) true := by
  intro d
  induction d with
  | zero =>
    intro i hi
    apply succ
    simp only [depotlaw03_alike.l0]
    exact neg (by omega) (now rfl)
  | succ d ih =>
    intro i hi
    have hw : wrap64 ((i : Int) + 1) = ((i + 1 : Nat) : Int) := wr i (by omega)
    apply succ
    simp only [depotlaw03_alike.l0]
    rw [hw]
    exact pos (by omega) (pos (by omega) (pos (by omega) (pos (by omega) (neg (by simp) (ih (i + 1) (by omega))))))
theorem alike_ev (xs : List It) (hn : xs.length ≤ 1099511627776) : Ev (fun k => depotlaw03_alike.f k xs xs) true := by
  simp only [depotlaw03_alike.f]
  exact pos trivial (alike_in xs hn xs.length 0 (by omega))
/-- The bytes are not many more than what the items hold. -/
theorem frameB_small : ∀ (its : List It), (frameB its).length ≤ 4 * ((its.map (fun y => ((1 + (1 + ((y.f2).size + 1))) + 1))).sum)
  | [] => by simp [frameB]
  | x :: its => by
    have ih := frameB_small its
    rw [frameB_cons, List.length_append, List.map_cons, List.sum_cons]
    have : (frame1 x).length ≤ 16 + x.f2.size := by
      unfold frame1
      split
      · rw [le8_len]; omega
      · rw [frame8_len]
        have := pad8 x.f2.size
        omega
    omega
theorem len_le_sum : ∀ (its : List It), its.length ≤ ((its.map (fun y => ((1 + (1 + ((y.f2).size + 1))) + 1))).sum)
  | [] => Nat.le_refl _
  | x :: its => by
    have ih := len_le_sum its
    rw [List.map_cons, List.sum_cons, List.length_cons]
    omega
theorem fit_of {x : It} (h : (Lit.int .u64 (x.f1)).wf = true) (hs : x.f2.size ≤ 1099511627776) : Fit x := ⟨by have := bounds_u64 h; omega, hs⟩
theorem size_le_sum : ∀ (its : List It), ∀ x ∈ its, x.f2.size ≤ (its.map (fun y => ((1 + (1 + ((y.f2).size + 1))) + 1))).sum
  | [], x, hx => by cases hx
  | y :: its, x, hx => by
    rw [List.map_cons, List.sum_cons]
    rcases List.mem_cons.1 hx with rfl | hx
    · omega
    · have := size_le_sum its x hx
      omega
end Go.Proofs.Ytnilogameaaooaa.Pure
/- By a program of this session's: a plain Lean function for a Go function, and its contract. -/
namespace Go.Proofs.Ytnilogameaaooaa.Q
open Go.RowKit Go.Proofs.YtnilogameaaooaaW.PrintWords Go.Proofs.YtnilogameaaooaaW.PrintLast Go.Proofs.YtnilogameaaooaaW.PrintMore
attribute [local go_sem] max2_int min2_int max_two min_two max_three min_three max_four min_four Go.Proofs.Ytnilogameaaooaa.Ord.str_leq Go.Proofs.Ytnilogameaaooaa.Ord.str_gtr Go.Proofs.Ytnilogameaaooaa.Ord.str_geq   -- for this text's walks alone
set_option linter.unusedVariables false
set_option linter.unusedSimpArgs false

/-! ### depotlaw03_WireBack: function 5 -/
def depotlaw03_WireBack.j0 : Nat → ByteArray → ByteArray → Int → Bool → Option (Bool)
  | 0, _, _, _, _ => none
  | k + 1, x4, x5, x6, x42 => if x42 = true then (some false) else (if x6 = 0 then (some true) else ((wire_Split.f x4 x5 (wrap64 (x6 - 1))).bind fun bt221 => (if bt221.2.1 = 6 then (some ((bt221.1.length : Int) == 0)) else (some false))))
def depotlaw03_WireBack.f (k : Nat) (l0 : List (S55)) : Option (Bool) := (depotlaw03_awake.f k).bind fun t207 => (if t207 = true then ((depotlaw03_plain.f k l0).bind fun t208 => ((depotlaw03_framed.f k t208).bind fun bt211 => ((depotlaw03_longest.f k t208).bind fun t213 => ((wire_Split.f bt211.1 bt211.2 t213).bind fun bt214 => (if bt214.2.1 = 0 then (if bt214.2.2 = 0 then ((depotlaw03_alike.f k bt214.1 t208).bind fun t220 => (depotlaw03_WireBack.j0 k bt211.1 bt211.2 t213 (!t220))) else (depotlaw03_WireBack.j0 k bt211.1 bt211.2 t213 true)) else (depotlaw03_WireBack.j0 k bt211.1 bt211.2 t213 true)))))) else (some false))
theorem depotlaw03_WireBack.mono_l : ∀ k, (∀ y0 y1 y2 y3, LeO (depotlaw03_WireBack.j0 k y0 y1 y2 y3) (depotlaw03_WireBack.j0 (k + 1) y0 y1 y2 y3))
  | 0 => fun _ _ _ _ r h => by simp [depotlaw03_WireBack.j0] at h
  | k + 1 => by
    have ih0 := depotlaw03_WireBack.mono_l k
    · intro y0 y1 y2 y3
      unfold depotlaw03_WireBack.j0
      repeat' first
      | (with_reducible exact ih0 _ _ _ _)
      | (with_reducible exact depotlaw03_alike.mono _ _ _)
      | (with_reducible exact depotlaw03_awake.mono _)
      | (with_reducible exact depotlaw03_framed.mono _ _)
      | (with_reducible exact depotlaw03_longest.mono _ _)
      | (with_reducible exact depotlaw03_plain.mono _ _)
      | (with_reducible exact LeO.refl _)
      | (with_reducible exact LeO.none _)
      | (with_reducible refine LeO.ite ?_ ?_)
      | (with_reducible refine LeO.bind ?_ (fun _ => ?_))
      | exact ih0 _ _ _ _
      | exact depotlaw03_alike.mono _ _ _
      | exact depotlaw03_awake.mono _
      | exact depotlaw03_framed.mono _ _
      | exact depotlaw03_longest.mono _ _
      | exact depotlaw03_plain.mono _ _
      | exact LeO.none _
      | refine LeO.ite ?_ ?_
      | refine LeO.bind ?_ (fun _ => ?_)
theorem depotlaw03_WireBack.mono : ∀ a0 k, LeO (depotlaw03_WireBack.f k a0) (depotlaw03_WireBack.f (k + 1) a0) := by
  intro a0 k
  have ih0 := depotlaw03_WireBack.mono_l k
  unfold depotlaw03_WireBack.f
  repeat' first
      | (with_reducible exact ih0 _ _ _ _)
      | (with_reducible exact depotlaw03_alike.mono _ _ _)
      | (with_reducible exact depotlaw03_awake.mono _)
      | (with_reducible exact depotlaw03_framed.mono _ _)
      | (with_reducible exact depotlaw03_longest.mono _ _)
      | (with_reducible exact depotlaw03_plain.mono _ _)
      | (with_reducible exact LeO.refl _)
      | (with_reducible exact LeO.none _)
      | (with_reducible refine LeO.ite ?_ ?_)
      | (with_reducible refine LeO.bind ?_ (fun _ => ?_))
      | exact ih0 _ _ _ _
      | exact depotlaw03_alike.mono _ _ _
      | exact depotlaw03_awake.mono _
      | exact depotlaw03_framed.mono _ _
      | exact depotlaw03_longest.mono _ _
      | exact depotlaw03_plain.mono _ _
      | exact LeO.none _
      | refine LeO.ite ?_ ?_
      | refine LeO.bind ?_ (fun _ => ?_)
set_option maxHeartbeats 8000000 in
set_option maxRecDepth 100000 in
theorem depotlaw03_WireBack.calls (k : Nat) (A0 : Option Addr) (c0 : Nat) (l0 : List (S55)) (r : Bool) (w : World) (hr0 : Kd.C k55 w A0 l0.length l0) (hc0 : l0.length ≤ c0) (h : depotlaw03_WireBack.f k l0 = some r) :
    Calls Try.prog 5 #[.slice A0 l0.length c0] w fun e w' => e = .returned (.bool r) ∧ Below w.heap.size w w' := by
  have hu31 := Try.underlying31
  have HR0 := Aside0.mk hr0
  have HC0 := Aside0.mk hc0
  clear hr0 hc0
  have HB := Aside0.mk (Below.refl w.heap.size w)
  have H : ((depotlaw03_awake.f k).bind fun t207 => (if t207 = true then ((depotlaw03_plain.f k l0).bind fun t208 => ((depotlaw03_framed.f k t208).bind fun bt211 => ((depotlaw03_longest.f k t208).bind fun t213 => ((wire_Split.f bt211.1 bt211.2 t213).bind fun bt214 => (if bt214.2.1 = 0 then (if bt214.2.2 = 0 then ((depotlaw03_alike.f k bt214.1 t208).bind fun t220 => (depotlaw03_WireBack.j0 k bt211.1 bt211.2 t213 (!t220))) else (depotlaw03_WireBack.j0 k bt211.1 bt211.2 t213 true)) else (depotlaw03_WireBack.j0 k bt211.1 bt211.2 t213 true)))))) else (some false))) = some r := h
  clear h
  replace H := Option.bind_eq_some_iff.mp H
  obtain ⟨t207, A20, H⟩ := H
  replace H : (if t207 = true then ((depotlaw03_plain.f k l0).bind fun t208 => ((depotlaw03_framed.f k t208).bind fun bt211 => ((depotlaw03_longest.f k t208).bind fun t213 => ((wire_Split.f bt211.1 bt211.2 t213).bind fun bt214 => (if bt214.2.1 = 0 then (if bt214.2.2 = 0 then ((depotlaw03_alike.f k bt214.1 t208).bind fun t220 => (depotlaw03_WireBack.j0 k bt211.1 bt211.2 t213 (!t220))) else (depotlaw03_WireBack.j0 k bt211.1 bt211.2 t213 true)) else (depotlaw03_WireBack.j0 k bt211.1 bt211.2 t213 true)))))) else (some false)) = some r := H
  have A2 := Aside0.mk A20
  clear A20
  by_cases c3 : t207 = true
  · subst c3
    have H1 : ((depotlaw03_plain.f k l0).bind fun t208 => ((depotlaw03_framed.f k t208).bind fun bt211 => ((depotlaw03_longest.f k t208).bind fun t213 => ((wire_Split.f bt211.1 bt211.2 t213).bind fun bt214 => (if bt214.2.1 = 0 then (if bt214.2.2 = 0 then ((depotlaw03_alike.f k bt214.1 t208).bind fun t220 => (depotlaw03_WireBack.j0 k bt211.1 bt211.2 t213 (!t220))) else (depotlaw03_WireBack.j0 k bt211.1 bt211.2 t213 true)) else (depotlaw03_WireBack.j0 k bt211.1 bt211.2 t213 true)))))) = some r := by rw [if_pos rfl] at H; exact H
    clear H
    have H := H1
    clear H1
    replace H := Option.bind_eq_some_iff.mp H
    obtain ⟨t208, A40, H⟩ := H
    replace H : ((depotlaw03_framed.f k t208).bind fun bt211 => ((depotlaw03_longest.f k t208).bind fun t213 => ((wire_Split.f bt211.1 bt211.2 t213).bind fun bt214 => (if bt214.2.1 = 0 then (if bt214.2.2 = 0 then ((depotlaw03_alike.f k bt214.1 t208).bind fun t220 => (depotlaw03_WireBack.j0 k bt211.1 bt211.2 t213 (!t220))) else (depotlaw03_WireBack.j0 k bt211.1 bt211.2 t213 true)) else (depotlaw03_WireBack.j0 k bt211.1 bt211.2 t213 true))))) = some r := H
    have A4 := Aside0.mk A40
    clear A40
    replace H := Option.bind_eq_some_iff.mp H
    obtain ⟨⟨t211, t212⟩, A50, H⟩ := H
    replace H : ((depotlaw03_longest.f k t208).bind fun t213 => ((wire_Split.f t211 t212 t213).bind fun bt214 => (if bt214.2.1 = 0 then (if bt214.2.2 = 0 then ((depotlaw03_alike.f k bt214.1 t208).bind fun t220 => (depotlaw03_WireBack.j0 k t211 t212 t213 (!t220))) else (depotlaw03_WireBack.j0 k t211 t212 t213 true)) else (depotlaw03_WireBack.j0 k t211 t212 t213 true)))) = some r := H
    have A5 := Aside0.mk A50
    clear A50
    replace H := Option.bind_eq_some_iff.mp H
    obtain ⟨t213, A60, H⟩ := H
    replace H : ((wire_Split.f t211 t212 t213).bind fun bt214 => (if bt214.2.1 = 0 then (if bt214.2.2 = 0 then ((depotlaw03_alike.f k bt214.1 t208).bind fun t220 => (depotlaw03_WireBack.j0 k t211 t212 t213 (!t220))) else (depotlaw03_WireBack.j0 k t211 t212 t213 true)) else (depotlaw03_WireBack.j0 k t211 t212 t213 true))) = some r := H
    have A6 := Aside0.mk A60
    clear A60
    replace H := Option.bind_eq_some_iff.mp H
    obtain ⟨⟨t214, t217, t218⟩, A70, H⟩ := H
    replace H : (if t217 = 0 then (if t218 = 0 then ((depotlaw03_alike.f k t214 t208).bind fun t220 => (depotlaw03_WireBack.j0 k t211 t212 t213 (!t220))) else (depotlaw03_WireBack.j0 k t211 t212 t213 true)) else (depotlaw03_WireBack.j0 k t211 t212 t213 true)) = some r := H
    have A7 := Aside0.mk A70
    clear A70
    have HC8 := Aside0.mk H
    clear H
    go_enter Try.func5, Try.ntmps5
    go_upto_region 7 with (first | ((with_reducible refine gate_callee (f := 18) rfl ?_); refine goesL_ (some 11) rfl rfl Try.func18 (by kernel_rfl) rfl #[] rfl (by (try simp only [List.map_toArray, List.map_cons, List.map_nil]); first | done | rfl | (simp only [List.length_drop, List.length_take]; rfl)) ?_; (with_reducible refine (depotlaw03_awake.calls k  true _ A2.out).mono ?_); rintro e w9 ⟨rfl, hb⟩; refine ⟨_, rfl, ?_⟩; have n0_ := Aside0.mk (below_step (by repeat (first | (with_reducible first | exact HB.out | apply below_alloc | apply pw_below_drewN | apply below_drew1) | exact HB.out)) hb); clear HB; have HB := n0_; clear n0_; (try clear hb); (try clear hb2); (try clear hk); (try clear hi)) | ((with_reducible refine gate_callee (f := 23) rfl ?_); refine goesL_ (some 14) rfl rfl Try.func23 (by kernel_rfl) rfl #[.slice A0 l0.length c0] rfl (by (try simp only [List.map_toArray, List.map_cons, List.map_nil]); first | done | rfl | (simp only [List.length_drop, List.length_take]; rfl)) ?_; (with_reducible refine (depotlaw03_plain.calls k _ _ l0 t208 _ ?side1 ?side2 A4.out).mono ?_); (case side1 => repeat (first | exact (Kd.C_below HR0.out HB.out) | (with_reducible refine Kd.C_alloc ?_ _) | (with_reducible refine Kd.C_drewN ?_ _) | (with_reducible refine Kd.C_drew ?_))); (case side2 => exact HC0.out); rintro e w10 ⟨v209, rfl, ho0, hb⟩; refine ⟨_, rfl, ?_⟩; have n0_ := Aside0.mk (Kd.R_lower ho0 (below_size (by repeat (first | (with_reducible first | exact HB.out | apply below_alloc | apply pw_below_drewN | apply below_drew1) | exact HB.out)))); have n1_ := Aside0.mk (below_step (by repeat (first | (with_reducible first | exact HB.out | apply below_alloc | apply pw_below_drewN | apply below_drew1) | exact HB.out)) hb); clear HB; have HO210 := n0_; have HB := n1_; clear n0_ n1_; (try clear hb); (try clear hb2); (try clear hk); (try clear hi); (try clear ho0); obtain ⟨Ao11, co11, eo11⟩ := Kd.R_slice HO210.out; subst eo11) | ((with_reducible refine gate_callee (f := 24) rfl ?_); refine goesL_ (some 17) rfl rfl Try.func24 (by kernel_rfl) rfl #[.slice Ao11 t208.length co11] rfl (by (try simp only [List.map_toArray, List.map_cons, List.map_nil]); first | done | rfl | (simp only [List.length_drop, List.length_take]; rfl)) ?_; (with_reducible refine (depotlaw03_framed.calls k _ _ t208 t211 t212 _ ?side1 ?side2 A5.out).mono ?_); (case side1 => repeat (first | exact (Kd.R_reads' HO210.out).2.2 | (with_reducible refine Kd.C_alloc ?_ _) | (with_reducible refine Kd.C_drewN ?_ _) | (with_reducible refine Kd.C_drew ?_))); (case side2 => exact (Kd.R_reads' HO210.out).2.1); rintro e w12 ⟨rfl, hb⟩; refine ⟨_, rfl, ?_⟩; have n0_ := Aside0.mk (Kd.R_below (by (with_reducible repeat (first | apply Kd.R_alloc | apply Kd.R_drewN | apply Kd.R_drew)); exact HO210.out) hb); have n1_ := Aside0.mk (below_step (by repeat (first | (with_reducible first | exact HB.out | apply below_alloc | apply pw_below_drewN | apply below_drew1) | exact HB.out)) hb); clear HO210; clear HB; have HO210 := n0_; have HB := n1_; clear n0_ n1_; (try clear hb); (try clear hb2); (try clear hk); (try clear hi)) | ((with_reducible refine gate_callee (f := 25) rfl ?_); refine goesL_ (some 21) rfl rfl Try.func25 (by kernel_rfl) rfl #[.slice Ao11 t208.length co11] rfl (by (try simp only [List.map_toArray, List.map_cons, List.map_nil]); first | done | rfl | (simp only [List.length_drop, List.length_take]; rfl)) ?_; (with_reducible refine (depotlaw03_longest.calls k _ _ t208 t213 _ ?side1 ?side2 A6.out).mono ?_); (case side1 => repeat (first | exact (Kd.R_reads' HO210.out).2.2 | (with_reducible refine Kd.C_alloc ?_ _) | (with_reducible refine Kd.C_drewN ?_ _) | (with_reducible refine Kd.C_drew ?_))); (case side2 => exact (Kd.R_reads' HO210.out).2.1); rintro e w13 ⟨rfl, hb⟩; refine ⟨_, rfl, ?_⟩; have n0_ := Aside0.mk (Kd.R_below (by (with_reducible repeat (first | apply Kd.R_alloc | apply Kd.R_drewN | apply Kd.R_drew)); exact HO210.out) hb); have n1_ := Aside0.mk (below_step (by repeat (first | (with_reducible first | exact HB.out | apply below_alloc | apply pw_below_drewN | apply below_drew1) | exact HB.out)) hb); clear HO210; clear HB; have HO210 := n0_; have HB := n1_; clear n0_ n1_; (try clear hb); (try clear hb2); (try clear hk); (try clear hi)) | ((with_reducible refine gate_callee (f := 19) rfl ?_); refine goesL_ (some 26) rfl rfl Try.func19 (by kernel_rfl) rfl #[.string t211, .string t212, .int .i64 t213] rfl (by (try simp only [List.map_toArray, List.map_cons, List.map_nil]); first | done | rfl | (simp only [List.length_drop, List.length_take]; rfl)) ?_; (with_reducible refine (wire_Split.calls t211 t212 t213 t214 t217 t218 _ A7.out).mono ?_); rintro e w14 ⟨v215, rfl, ho0, hb⟩; refine ⟨_, rfl, ?_⟩; have n0_ := Aside0.mk (Kd.R_elder' (by (with_reducible repeat (first | apply Kd.R_alloc | apply Kd.R_drewN | apply Kd.R_drew)); exact HO210.out) (Kd.R_base ho0) hb); have n1_ := Aside0.mk (Kd.R_lower (Kd.R_new' ho0 (Kd.R_lt (by (with_reducible repeat (first | apply Kd.R_alloc | apply Kd.R_drewN | apply Kd.R_drew)); exact HO210.out))) (below_size (by repeat (first | (with_reducible first | exact HB.out | apply below_alloc | apply pw_below_drewN | apply below_drew1) | exact HB.out)))); have n2_ := Aside0.mk (below_step (by repeat (first | (with_reducible first | exact HB.out | apply below_alloc | apply pw_below_drewN | apply below_drew1) | exact HB.out)) hb); clear HO210; clear HB; have HO210 := n0_; have HO216 := n1_; have HB := n2_; clear n0_ n1_ n2_; (try clear hb); (try clear hb2); (try clear hk); (try clear hi); (try clear ho0)) | ((with_reducible refine gate_dst (N := 8) rfl ?_); (try (refine gate_guard (by rfl) ?_; dsimp only)); refine box_event ?hg (N := 8) ?hd (cs := #[.int .i64 0, .int .i64 0]) (t := 31) ?hr ?_; (case hd => rfl); (case hg => rfl); (case hr => first | (go_simp; done) | (go_simp; rfl)); intro gb219 hg w15 hbox hb; have n0_ := Aside0.mk (Kd.R_below (by (with_reducible repeat (first | apply Kd.R_alloc | apply Kd.R_drewN | apply Kd.R_drew)); exact HO210.out) hb); have n1_ := Aside0.mk (Kd.R_below (by (with_reducible repeat (first | apply Kd.R_alloc | apply Kd.R_drewN | apply Kd.R_drew)); exact HO216.out) hb); have n2_ := Aside0.mk (below_step (by repeat (first | (with_reducible first | exact HB.out | apply below_alloc | apply pw_below_drewN | apply below_drew1) | exact HB.out)) hb); have n3_ := Aside0.mk (hbox); have n4_ := Aside0.mk ((by rw [hg]; exact (below_size (by repeat (first | (with_reducible first | exact HB.out | apply below_alloc | apply pw_below_drewN | apply below_drew1) | exact HB.out))) : w.heap.size ≤ gb219)); have n5_ := Aside0.mk ((by rw [hg]; exact (below_size (by repeat (first | (with_reducible first | exact HB.out | apply below_alloc | apply pw_below_drewN | apply below_drew1) | exact HB.out))) : w.heap.size ≤ gb219)); clear HO210; clear HO216; clear HB; have HO210 := n0_; have HO216 := n1_; have HB := n2_; have BK219 := n3_; have GW219 := n4_; have GE219 := n5_; clear n0_ n1_ n2_ n3_ n4_ n5_; clear hb hbox hg; have hcz16_0 : w15.cell? ⟨gb219, 0, none⟩ = some (.int .i64 0) := (blk_cell BK219.out 0).trans rfl; have hcz16_1 : w15.cell? ⟨gb219, 1, none⟩ = some (.int .i64 0) := (blk_cell BK219.out 1).trans rfl; have hfz16_0 := blk_frozen BK219.out 0; have hfz16_1 := blk_frozen BK219.out 1))
    (try simp only [Act.put, List.setIfInBounds_toArray, List.set_cons_zero, List.set_cons_succ])
    go_cut [42] (fun v42 wc => ∃ (kq : Nat) (x42_7 : Bool), v42 = .bool x42_7 ∧ Aside0 (depotlaw03_WireBack.j0 kq t211 t212 t213 x42_7 = some r) ∧ Aside0 (kq ≤ k) ∧ Aside0 (wc.heap[gb219]? = some (.cells #[.int .i64 t217, .int .i64 t218] 31 (0, 0))) ∧ Aside0 (Below w.heap.size w wc))
    case first =>
      have H := HC8.out
      clear HC8
      by_cases c17 : t217 = 0
      · rw [if_pos c17] at H
        have c17b0 : (t217 == 0) = true := beq_iff_eq.mpr c17
        have c17b1 : (t217 != 0) = false := bne_eq_false_iff_eq.mpr c17
        clear c17
        (first | rw [c17b0] | (simp only [i64_w, i32_w]; rw [c17b0]) | skip)
        by_cases c18 : t218 = 0
        · rw [if_pos c18] at H
          have c18b0 : (t218 == 0) = true := beq_iff_eq.mpr c18
          have c18b1 : (t218 != 0) = false := bne_eq_false_iff_eq.mpr c18
          clear c18
          replace H := Option.bind_eq_some_iff.mp H
          obtain ⟨t220, A190, H⟩ := H
          replace H : (depotlaw03_WireBack.j0 k t211 t212 t213 (!t220)) = some r := H
          have A19 := Aside0.mk A190
          clear A190
          have H' := Aside0.mk H
          clear H
          have hcz20_0 : w15.cell? ⟨gb219, 0, none⟩ = some (.int .i64 0) := (blk_cell BK219.out 0).trans rfl
          have hcz20_1 : w15.cell? ⟨gb219, 1, none⟩ = some (.int .i64 0) := (blk_cell BK219.out 1).trans rfl
          have hfz20_0 := blk_frozen BK219.out 0
          have hfz20_1 := blk_frozen BK219.out 1
          obtain ⟨Ao21, co21, eo21⟩ := Kd.R_slice HO216.out
          subst eo21
          go_wp2_with (first | (go_at_call 26; (with_reducible refine (depotlaw03_alike.calls k _ _ t214 _ _ t208 t220 _ ?side1 ?side2 ?side3 ?side4 A19.out).mono ?_); (case side1 => refine (Kd.R_reads' (e := 55) (base := w.heap.size) (ok := fun k_ => (True ∧ some k_ ≠ (.slice Ao11 t208.length co11 : Value).ownBlock)) (n := t214.length) (c := co21) ?_).2.2; exact (by (with_reducible repeat (first | apply Kd.R_alloc | apply Kd.R_drewN | apply Kd.R_drew)); exact (Kd.R_mono (Kd.R_far (p := ⟨gb219, 1, none⟩) (Kd.R_far (p := ⟨gb219, 0, none⟩) (Kd.R_types HO216.out BK219.out (by decide)) (fun _ hk => hk.2) (.int .i64 t217)) (fun _ hk => hk.2) (.int .i64 t218)) (fun _ h_ => h_.1)))); (case side2 => exact (Kd.R_reads' HO216.out).2.1); (case side3 => refine (Kd.R_reads' (e := 55) (base := w.heap.size) (ok := fun k_ => (True ∧ some k_ ≠ (.slice Ao21 t214.length co21 : Value).ownBlock)) (n := t208.length) (c := co11) ?_).2.2; exact (by (with_reducible repeat (first | apply Kd.R_alloc | apply Kd.R_drewN | apply Kd.R_drew)); exact (Kd.R_mono (Kd.R_far (p := ⟨gb219, 1, none⟩) (Kd.R_far (p := ⟨gb219, 0, none⟩) (Kd.R_types HO210.out BK219.out (by decide)) (fun _ hk => hk.2) (.int .i64 t217)) (fun _ hk => hk.2) (.int .i64 t218)) (fun _ h_ => h_.1)))); (case side4 => exact (Kd.R_reads' HO210.out).2.1); rintro e w' ⟨rfl, ⟨nd, rfl⟩⟩))
          go_meet
          case rel => exact ⟨_, (!t220), (by first | rfl | (simp; done) | (simp [*]; done)), H', ⟨by first | omega | exact Nat.le_refl _⟩, ⟨by (with_reducible repeat (first | refine blk_drewN ?_ _ | refine blk_drew ?_ | refine blk_alloc ?_ _)); refine blk_put (cs := #[.int .i64 t217, .int .i64 0]) ?_ 1 _ rfl; (with_reducible repeat (first | refine blk_drewN ?_ _ | refine blk_drew ?_ | refine blk_alloc ?_ _)); refine blk_put (cs := #[.int .i64 0, .int .i64 0]) ?_ 0 _ rfl; (with_reducible repeat (first | refine blk_drewN ?_ _ | refine blk_drew ?_ | refine blk_alloc ?_ _)); exact BK219.out⟩, ⟨by repeat (first | (with_reducible first | exact HB.out | apply below_alloc | apply pw_below_drewN | apply below_drew1 | refine below_set ?_ GE219.out) | exact HB.out)⟩⟩
        · rw [if_neg c18] at H
          have c18b0 : (t218 == 0) = false := beq_eq_false_iff_ne.mpr c18
          have c18b1 : (t218 != 0) = true := bne_iff_ne.mpr c18
          have H' := Aside0.mk H
          clear H
          have hcz22_0 : w15.cell? ⟨gb219, 0, none⟩ = some (.int .i64 0) := (blk_cell BK219.out 0).trans rfl
          have hcz22_1 : w15.cell? ⟨gb219, 1, none⟩ = some (.int .i64 0) := (blk_cell BK219.out 1).trans rfl
          have hfz22_0 := blk_frozen BK219.out 0
          have hfz22_1 := blk_frozen BK219.out 1
          go_wp2
          go_meet
          case rel => exact ⟨_, (true), (by first | rfl | (simp; done) | (simp [*]; done)), H', ⟨by first | omega | exact Nat.le_refl _⟩, ⟨by (with_reducible repeat (first | refine blk_drewN ?_ _ | refine blk_drew ?_ | refine blk_alloc ?_ _)); refine blk_put (cs := #[.int .i64 t217, .int .i64 0]) ?_ 1 _ rfl; (with_reducible repeat (first | refine blk_drewN ?_ _ | refine blk_drew ?_ | refine blk_alloc ?_ _)); refine blk_put (cs := #[.int .i64 0, .int .i64 0]) ?_ 0 _ rfl; (with_reducible repeat (first | refine blk_drewN ?_ _ | refine blk_drew ?_ | refine blk_alloc ?_ _)); exact BK219.out⟩, ⟨by repeat (first | (with_reducible first | exact HB.out | apply below_alloc | apply pw_below_drewN | apply below_drew1 | refine below_set ?_ GE219.out) | exact HB.out)⟩⟩
      · rw [if_neg c17] at H
        have c17b0 : (t217 == 0) = false := beq_eq_false_iff_ne.mpr c17
        have c17b1 : (t217 != 0) = true := bne_iff_ne.mpr c17
        (first | rw [c17b0] | (simp only [i64_w, i32_w]; rw [c17b0]) | skip)
        have H' := Aside0.mk H
        clear H
        have hcz23_0 : w15.cell? ⟨gb219, 0, none⟩ = some (.int .i64 0) := (blk_cell BK219.out 0).trans rfl
        have hcz23_1 : w15.cell? ⟨gb219, 1, none⟩ = some (.int .i64 0) := (blk_cell BK219.out 1).trans rfl
        have hfz23_0 := blk_frozen BK219.out 0
        have hfz23_1 := blk_frozen BK219.out 1
        go_wp2
        go_meet
        case rel => exact ⟨_, (true), (by first | rfl | (simp; done) | (simp [*]; done)), H', ⟨by first | omega | exact Nat.le_refl _⟩, ⟨by (with_reducible repeat (first | refine blk_drewN ?_ _ | refine blk_drew ?_ | refine blk_alloc ?_ _)); refine blk_put (cs := #[.int .i64 t217, .int .i64 0]) ?_ 1 _ rfl; (with_reducible repeat (first | refine blk_drewN ?_ _ | refine blk_drew ?_ | refine blk_alloc ?_ _)); refine blk_put (cs := #[.int .i64 0, .int .i64 0]) ?_ 0 _ rfl; (with_reducible repeat (first | refine blk_drewN ?_ _ | refine blk_drew ?_ | refine blk_alloc ?_ _)); exact BK219.out⟩, ⟨by repeat (first | (with_reducible first | exact HB.out | apply below_alloc | apply pw_below_drewN | apply below_drew1 | refine below_set ?_ GE219.out) | exact HB.out)⟩⟩
    case rest =>
      clear HC8
      try clear c1
      try clear c2
      try clear p2
      try clear c3
      try clear c5
      try clear c17
      try clear c17b0
      try clear c17b1
      try clear c18
      try clear c18b0
      try clear c18b1
      try clear c19
      try clear c23
      try clear hcz16_0
      try clear hcz16_1
      try clear hcz20_0
      try clear hcz20_1
      try clear hcz22_0
      try clear hcz22_1
      try clear hcz23_0
      try clear hcz23_1
      try clear hfz16_0
      try clear hfz16_1
      try clear hfz20_0
      try clear hfz20_1
      try clear hfz22_0
      try clear hfz22_1
      try clear hfz23_0
      try clear hfz23_1
      obtain ⟨kq, x42_7, rfl, HA, HJ7, BK219, HB⟩ := hcut
      cases kq with
      | zero => exact absurd HA.out (by simp [depotlaw03_WireBack.j0])
      | succ kj7 =>
        have H := HA.out
        clear HA
        simp only [depotlaw03_WireBack.j0] at H
        by_cases c24 : x42_7 = true
        · subst c24
          have H1 : (some false) = some r := by rw [if_pos rfl] at H; exact H
          clear H
          have H := H1
          clear H1
          obtain rfl := Option.some.inj H
          go_wp2
          go_ret
          exact ⟨by first | rfl | (simp [errW_none, errW_some] <;> rfl) | (simp [*, errW_none, errW_some] <;> rfl), by repeat (first | (with_reducible first | exact HB.out | apply below_alloc | apply pw_below_drewN | apply below_drew1 | refine below_set ?_ GE219.out) | exact HB.out)⟩
        · replace c24 := Bool.eq_false_iff.mpr c24
          subst c24
          have H1 : (if t213 = 0 then (some true) else ((wire_Split.f t211 t212 (wrap64 (t213 - 1))).bind fun bt221 => (if bt221.2.1 = 6 then (some ((bt221.1.length : Int) == 0)) else (some false)))) = some r := by rw [if_neg (show ¬ (false = true) by decide)] at H; exact H
          clear H
          have H := H1
          clear H1
          by_cases c25 : t213 = 0
          · rw [if_pos c25] at H
            have c25b0 : (t213 == 0) = true := beq_iff_eq.mpr c25
            have c25b1 : (t213 != 0) = false := bne_eq_false_iff_eq.mpr c25
            clear c25
            obtain rfl := Option.some.inj H
            go_wp2
            go_ret
            exact ⟨by first | rfl | (simp [errW_none, errW_some] <;> rfl) | (simp [*, errW_none, errW_some] <;> rfl), by repeat (first | (with_reducible first | exact HB.out | apply below_alloc | apply pw_below_drewN | apply below_drew1 | refine below_set ?_ GE219.out) | exact HB.out)⟩
          · rw [if_neg c25] at H
            have c25b0 : (t213 == 0) = false := beq_eq_false_iff_ne.mpr c25
            have c25b1 : (t213 != 0) = true := bne_iff_ne.mpr c25
            replace H := Option.bind_eq_some_iff.mp H
            obtain ⟨⟨t221, t224, t225⟩, A260, H⟩ := H
            replace H : (if t224 = 6 then (some ((t221.length : Int) == 0)) else (some false)) = some r := H
            have A26 := Aside0.mk A260
            clear A260
            by_cases c27 : t224 = 6
            · rw [if_pos c27] at H
              have c27b0 : (t224 == 6) = true := beq_iff_eq.mpr c27
              have c27b1 : (t224 != 6) = false := bne_eq_false_iff_eq.mpr c27
              clear c27
              obtain rfl := Option.some.inj H
              go_wp2_with (first | ((with_reducible refine gate_callee (f := 19) rfl ?_); refine goesL_ (some 50) rfl rfl Try.func19 (by kernel_rfl) rfl #[.string t211, .string t212, .int .i64 (wrap64 (t213 - 1))] rfl (by (try simp only [List.map_toArray, List.map_cons, List.map_nil]); first | done | rfl | (simp only [List.length_drop, List.length_take]; rfl)) ?_; (with_reducible refine (wire_Split.calls t211 t212 (wrap64 (t213 - 1)) t221 t224 t225 _ A26.out).mono ?_); rintro e w28 ⟨v222, rfl, ho0, hb⟩; refine ⟨_, rfl, ?_⟩; have n0_ := Aside0.mk (Kd.R_lower ho0 (below_size (by repeat (first | (with_reducible first | exact HB.out | apply below_alloc | apply pw_below_drewN | apply below_drew1 | refine below_set ?_ GE219.out) | exact HB.out)))); have n1_ := Aside0.mk (blk_below (g := gb219) (o := .cells #[.int .i64 t217, .int .i64 t218] 31 (0, 0)) (by (with_reducible repeat (first | refine blk_drewN ?_ _ | refine blk_drew ?_ | refine blk_alloc ?_ _)); exact BK219.out) hb); have n2_ := Aside0.mk (below_step (by repeat (first | (with_reducible first | exact HB.out | apply below_alloc | apply pw_below_drewN | apply below_drew1 | refine below_set ?_ GE219.out) | exact HB.out)) hb); clear BK219; clear HB; have HO223 := n0_; have BK219 := n1_; have HB := n2_; clear n0_ n1_ n2_; (try clear hb); (try clear hb2); (try clear hk); (try clear hi); (try clear ho0)) | ((with_reducible refine gate_dst (N := 10) rfl ?_); (try (refine gate_guard (by rfl) ?_; dsimp only)); refine box_event ?hg (N := 10) ?hd (cs := #[.int .i64 0, .int .i64 0]) (t := 31) ?hr ?_; (case hd => rfl); (case hg => rfl); (case hr => first | (go_simp; done) | (go_simp; rfl)); intro gb226 hg w29 hbox hb; have n0_ := Aside0.mk (Kd.R_below (by (with_reducible repeat (first | apply Kd.R_alloc | apply Kd.R_drewN | apply Kd.R_drew)); exact HO223.out) hb); have n1_ := Aside0.mk (blk_below (g := gb219) (o := .cells #[.int .i64 t217, .int .i64 t218] 31 (0, 0)) (by (with_reducible repeat (first | refine blk_drewN ?_ _ | refine blk_drew ?_ | refine blk_alloc ?_ _)); exact BK219.out) hb); have n2_ := Aside0.mk (below_step (by repeat (first | (with_reducible first | exact HB.out | apply below_alloc | apply pw_below_drewN | apply below_drew1 | refine below_set ?_ GE219.out) | exact HB.out)) hb); have n3_ := Aside0.mk (hbox); have n4_ := Aside0.mk ((by rw [hg]; exact (below_size (by repeat (first | (with_reducible first | exact HB.out | apply below_alloc | apply pw_below_drewN | apply below_drew1 | refine below_set ?_ GE219.out) | exact HB.out))) : w.heap.size ≤ gb226)); have n5_ := Aside0.mk ((by rw [hg]; exact (below_size (by repeat (first | (with_reducible first | exact HB.out | apply below_alloc | apply pw_below_drewN | apply below_drew1 | refine below_set ?_ GE219.out) | exact HB.out))) : w.heap.size ≤ gb226)); have n6_ := Aside0.mk ((by rw [hg]; exact Nat.ne_of_lt (blk_lt (g := gb219) (o := .cells #[.int .i64 t217, .int .i64 t218] 31 (0, 0)) (by (with_reducible repeat (first | refine blk_drewN ?_ _ | refine blk_drew ?_ | refine blk_alloc ?_ _)); exact BK219.out)) : gb219 ≠ gb226)); have n7_ := Aside0.mk ((by rw [hg]; exact Nat.ne_of_gt (blk_lt (g := gb219) (o := .cells #[.int .i64 t217, .int .i64 t218] 31 (0, 0)) (by (with_reducible repeat (first | refine blk_drewN ?_ _ | refine blk_drew ?_ | refine blk_alloc ?_ _)); exact BK219.out)) : gb226 ≠ gb219)); clear HO223; clear BK219; clear HB; have HO223 := n0_; have BK219 := n1_; have HB := n2_; have BK226 := n3_; have GW226 := n4_; have GE226 := n5_; have NB219_226 := n6_; have NB226_219 := n7_; clear n0_ n1_ n2_ n3_ n4_ n5_ n6_ n7_; clear hb hbox hg; have hnb30 := NB226_219.out; have hnc30 := NB219_226.out; have hcz31_0 : w29.cell? ⟨gb226, 0, none⟩ = some (.int .i64 0) := (blk_cell BK226.out 0).trans rfl; have hcz31_1 : w29.cell? ⟨gb226, 1, none⟩ = some (.int .i64 0) := (blk_cell BK226.out 1).trans rfl; have hfz31_0 := blk_frozen BK226.out 0; have hfz31_1 := blk_frozen BK226.out 1; obtain ⟨Ao32, co32, eo32⟩ := Kd.R_slice HO223.out; subst eo32))
              go_ret
              exact ⟨by first | rfl | (simp [errW_none, errW_some] <;> rfl) | (simp [*, errW_none, errW_some] <;> rfl), by repeat (first | (with_reducible first | exact HB.out | apply below_alloc | apply pw_below_drewN | apply below_drew1 | refine below_set ?_ GE219.out | refine below_set ?_ GE226.out) | exact HB.out)⟩
            · rw [if_neg c27] at H
              have c27b0 : (t224 == 6) = false := beq_eq_false_iff_ne.mpr c27
              have c27b1 : (t224 != 6) = true := bne_iff_ne.mpr c27
              obtain rfl := Option.some.inj H
              go_wp2_with (first | ((with_reducible refine gate_callee (f := 19) rfl ?_); refine goesL_ (some 50) rfl rfl Try.func19 (by kernel_rfl) rfl #[.string t211, .string t212, .int .i64 (wrap64 (t213 - 1))] rfl (by (try simp only [List.map_toArray, List.map_cons, List.map_nil]); first | done | rfl | (simp only [List.length_drop, List.length_take]; rfl)) ?_; (with_reducible refine (wire_Split.calls t211 t212 (wrap64 (t213 - 1)) t221 t224 t225 _ A26.out).mono ?_); rintro e w33 ⟨v222, rfl, ho0, hb⟩; refine ⟨_, rfl, ?_⟩; have n0_ := Aside0.mk (Kd.R_lower ho0 (below_size (by repeat (first | (with_reducible first | exact HB.out | apply below_alloc | apply pw_below_drewN | apply below_drew1 | refine below_set ?_ GE219.out) | exact HB.out)))); have n1_ := Aside0.mk (blk_below (g := gb219) (o := .cells #[.int .i64 t217, .int .i64 t218] 31 (0, 0)) (by (with_reducible repeat (first | refine blk_drewN ?_ _ | refine blk_drew ?_ | refine blk_alloc ?_ _)); exact BK219.out) hb); have n2_ := Aside0.mk (below_step (by repeat (first | (with_reducible first | exact HB.out | apply below_alloc | apply pw_below_drewN | apply below_drew1 | refine below_set ?_ GE219.out) | exact HB.out)) hb); clear BK219; clear HB; have HO223 := n0_; have BK219 := n1_; have HB := n2_; clear n0_ n1_ n2_; (try clear hb); (try clear hb2); (try clear hk); (try clear hi); (try clear ho0)) | ((with_reducible refine gate_dst (N := 10) rfl ?_); (try (refine gate_guard (by rfl) ?_; dsimp only)); refine box_event ?hg (N := 10) ?hd (cs := #[.int .i64 0, .int .i64 0]) (t := 31) ?hr ?_; (case hd => rfl); (case hg => rfl); (case hr => first | (go_simp; done) | (go_simp; rfl)); intro gb226 hg w34 hbox hb; have n0_ := Aside0.mk (Kd.R_below (by (with_reducible repeat (first | apply Kd.R_alloc | apply Kd.R_drewN | apply Kd.R_drew)); exact HO223.out) hb); have n1_ := Aside0.mk (blk_below (g := gb219) (o := .cells #[.int .i64 t217, .int .i64 t218] 31 (0, 0)) (by (with_reducible repeat (first | refine blk_drewN ?_ _ | refine blk_drew ?_ | refine blk_alloc ?_ _)); exact BK219.out) hb); have n2_ := Aside0.mk (below_step (by repeat (first | (with_reducible first | exact HB.out | apply below_alloc | apply pw_below_drewN | apply below_drew1 | refine below_set ?_ GE219.out) | exact HB.out)) hb); have n3_ := Aside0.mk (hbox); have n4_ := Aside0.mk ((by rw [hg]; exact (below_size (by repeat (first | (with_reducible first | exact HB.out | apply below_alloc | apply pw_below_drewN | apply below_drew1 | refine below_set ?_ GE219.out) | exact HB.out))) : w.heap.size ≤ gb226)); have n5_ := Aside0.mk ((by rw [hg]; exact (below_size (by repeat (first | (with_reducible first | exact HB.out | apply below_alloc | apply pw_below_drewN | apply below_drew1 | refine below_set ?_ GE219.out) | exact HB.out))) : w.heap.size ≤ gb226)); have n6_ := Aside0.mk ((by rw [hg]; exact Nat.ne_of_lt (blk_lt (g := gb219) (o := .cells #[.int .i64 t217, .int .i64 t218] 31 (0, 0)) (by (with_reducible repeat (first | refine blk_drewN ?_ _ | refine blk_drew ?_ | refine blk_alloc ?_ _)); exact BK219.out)) : gb219 ≠ gb226)); have n7_ := Aside0.mk ((by rw [hg]; exact Nat.ne_of_gt (blk_lt (g := gb219) (o := .cells #[.int .i64 t217, .int .i64 t218] 31 (0, 0)) (by (with_reducible repeat (first | refine blk_drewN ?_ _ | refine blk_drew ?_ | refine blk_alloc ?_ _)); exact BK219.out)) : gb226 ≠ gb219)); clear HO223; clear BK219; clear HB; have HO223 := n0_; have BK219 := n1_; have HB := n2_; have BK226 := n3_; have GW226 := n4_; have GE226 := n5_; have NB219_226 := n6_; have NB226_219 := n7_; clear n0_ n1_ n2_ n3_ n4_ n5_ n6_ n7_; clear hb hbox hg; have hnb35 := NB226_219.out; have hnc35 := NB219_226.out; have hcz36_0 : w34.cell? ⟨gb226, 0, none⟩ = some (.int .i64 0) := (blk_cell BK226.out 0).trans rfl; have hcz36_1 : w34.cell? ⟨gb226, 1, none⟩ = some (.int .i64 0) := (blk_cell BK226.out 1).trans rfl; have hfz36_0 := blk_frozen BK226.out 0; have hfz36_1 := blk_frozen BK226.out 1))
              go_ret
              exact ⟨by first | rfl | (simp [errW_none, errW_some] <;> rfl) | (simp [*, errW_none, errW_some] <;> rfl), by repeat (first | (with_reducible first | exact HB.out | apply below_alloc | apply pw_below_drewN | apply below_drew1 | refine below_set ?_ GE219.out | refine below_set ?_ GE226.out) | exact HB.out)⟩
  · replace c3 := Bool.eq_false_iff.mpr c3
    subst c3
    have H1 : (some false) = some r := by rw [if_neg (show ¬ (false = true) by decide)] at H; exact H
    clear H
    have H := H1
    clear H1
    obtain rfl := Option.some.inj H
    go_enter Try.func5, Try.ntmps5
    go_wp2_with (first | ((with_reducible refine gate_callee (f := 18) rfl ?_); refine goesL_ (some 11) rfl rfl Try.func18 (by kernel_rfl) rfl #[] rfl (by (try simp only [List.map_toArray, List.map_cons, List.map_nil]); first | done | rfl | (simp only [List.length_drop, List.length_take]; rfl)) ?_; (with_reducible refine (depotlaw03_awake.calls k  false _ A2.out).mono ?_); rintro e w37 ⟨rfl, hb⟩; refine ⟨_, rfl, ?_⟩; have n0_ := Aside0.mk (below_step (by repeat (first | (with_reducible first | exact HB.out | apply below_alloc | apply pw_below_drewN | apply below_drew1) | exact HB.out)) hb); clear HB; have HB := n0_; clear n0_; (try clear hb); (try clear hb2); (try clear hk); (try clear hi)))
    go_ret
    exact ⟨by first | rfl | (simp [errW_none, errW_some] <;> rfl) | (simp [*, errW_none, errW_some] <;> rfl), by repeat (first | (with_reducible first | exact HB.out | apply below_alloc | apply pw_below_drewN | apply below_drew1) | exact HB.out)⟩

end Go.Proofs.Ytnilogameaaooaa.Q
/- depotlaw03.WireBack answers true for every list of items whose texts and numbers hold together at most 2^20 values and letters. -/
set_option linter.unusedVariables false
set_option linter.unusedSimpArgs false
namespace Go.Proofs.Ytnilogameaaooaa.Pure
open Go.RowKit Go.Proofs.Ytnilogameaaooaa.Q Go.Proofs.Ytnilogameaaooaa.Rdr Go.Proofs.Ytnilogameaaooaa.Tail Go.Proofs.YtnilogameaaooaaW.PrintWords Go.Proofs.YtnilogameaaooaaW.PrintLast Go.Proofs.YtnilogameaaooaaW.PrintMore Go.Proofs.Ytnilogameaaooaa.Bytes Go.Proofs.Ytnilogameaaooaa.Evs

theorem plain_plain (x : It) : plain1 (plain1 x) = plain1 x := by
  unfold plain1
  by_cases h : x.f0 = true
  · rw [if_pos h]; rfl
  · rw [if_neg h]; rfl
theorem plain_fit {x : It} (h : Fit x) : Fit (plain1 x) := by
  unfold plain1
  split
  · exact ⟨h.1, by show 0 ≤ _; exact Nat.zero_le _⟩
  · exact ⟨⟨Int.le_refl _, by show (0 : Int) < _; decide⟩, h.2⟩
/-- The reading of framed items, and what may stand behind them. -/
theorem got_framed (its : List It) (rest : List Int) (hr : Byts rest) (most : Int) (hf : ∀ x ∈ its, Fit x) (hm : ∀ x ∈ its, x.f0 = false → (x.f2.size : Int) ≤ m0 most) :
    got (strOfNums (frameB its ++ rest)) (strOfNums (frameP its)) most = (its.map plain1 ++ (parse (m0 most) [] rest ((frameB its).length : Int)).1, (parse (m0 most) [] rest ((frameB its).length : Int)).2) := by
  rw [got_none (by rw [frameP_bs]; exact letters its 0), frameP_bs, numsOf_str _ (fun x hx => (List.mem_append.1 hx).elim (frameB_range its x) (hr x))]
  have := parse_all (m0 most) rest its 0 hf hm
  rw [Int.zero_add] at this
  exact this
theorem frameP_size (its : List It) : (strOfNums (frameP its)).size = its.length := by rw [size_bs, frameP_bs, List.length_map]
theorem frameB_size (its : List It) : (strOfNums (frameB its)).size = (frameB its).length := by rw [size_bs, bs_strOfNums, List.length_map]
theorem plain_same : ∀ (x0 : List It), (frameB (x0.map plain1)).length = (frameB x0).length ∧ frameP (x0.map plain1) = frameP x0
  | [] => ⟨rfl, rfl⟩
  | x :: l => by
    have ih := plain_same l
    rw [List.map_cons, frameB_cons, frameB_cons, List.length_append, List.length_append, ih.1]
    refine ⟨?_, ?_⟩
    · have : frame1 (plain1 x) = frame1 x := by
        unfold frame1 plain1
        by_cases h : x.f0 = true
        · rw [if_pos h, if_pos h]; rfl
        · rw [if_neg h, if_neg h]; rfl
      rw [this]
    · have h2 := ih.2
      unfold frameP at h2 ⊢
      rw [List.map_cons, List.map_cons, h2]
      have : letter (plain1 x) = letter x := by
        unfold letter plain1
        by_cases h : x.f0 = true
        · rw [if_pos h, if_pos h]; rfl
        · rw [if_neg h, if_neg h]; rfl
      rw [this]
theorem WireBack : ∀ (x0 : List It), (∀ n ∈ (((x0).length * Try.prog.bytesOf 55) :: (x0).flatMap (fun y1 => (([] : List Nat) ++ (([] : List Nat) ++ [((y1).f2).size])))), n ≤ 140737488351232) → ((x0).length ≤ maxLen ∧ ∀ y1 ∈ x0, (True ∧ ((Lit.int .u64 ((y1).f1)).wf = true ∧ ((y1).f2).size ≤ maxLen))) → (((x0).map (fun y1 => ((1 + (1 + (((y1).f2).size + 1))) + 1))).sum + 1) ≤ 1048576 → ∃ k, depotlaw03_WireBack.f k (x0) = some true := by
  intro x0 _ hw hk
  have hlen := len_le_sum x0
  have hf : ∀ x ∈ x0, Fit x := fun x hx => fit_of (hw.2 x hx).2.1 (by have := size_le_sum x0 x hx; omega)
  have hB := frameB_small x0
  have hpl := plain_same x0
  obtain ⟨W, hW⟩ : ∃ W, x0.map plain1 = W := ⟨_, rfl⟩
  have hWf : ∀ x ∈ W, Fit x := by
    intro x hx
    rw [← hW] at hx
    obtain ⟨y, hy, rfl⟩ := List.mem_map.1 hx
    exact plain_fit (hf y hy)
  have hWW : W.map plain1 = W := by
    rw [← hW, List.map_map]
    congr 1
    funext x
    exact plain_plain x
  have hWl : W.length = x0.length := by rw [← hW, List.length_map]
  have hWB : (frameB W).length ≤ 4194304 := by rw [← hW, hpl.1]; omega
  apply Ev.rounds
  simp only [depotlaw03_WireBack.f]
  have hpv := plain_ev x0 (by omega)
  rw [hW] at hpv
  have hL0 := lng_ge W 0
  have hLa := lng_all W 0
  have hLi := lng_is W 0
  obtain ⟨M, hM⟩ : ∃ M, lng W 0 = M := ⟨_, rfl⟩
  have hlo := longest_ev W (by omega)
  rw [hM] at hlo hL0 hLa hLi
  have hMs : M ≤ 1099511627776 := by
    rcases hLi with h | ⟨x, hx, h1, h2⟩
    · omega
    · have := (hWf x hx).2
      omega
  have hmM : m0 M = M := by unfold m0; rw [if_neg (by omega)]
  refine Ev.bind awake_ev (pos rfl (Ev.bind hpv (Ev.bind (framed_ev W hWf (by omega) (by omega)) (Ev.bind hlo ?_))))
  have hg := got_framed W [] (fun _ h => by cases h) M hWf (by rw [hmM]; exact hLa)
  rw [List.append_nil, hWW] at hg
  have hg : got (strOfNums (frameB W)) (strOfNums (frameP W)) M = (W, 0, 0, ((frameB W).length : Int)) := by
    rw [hg]
    simp only [parse]
    rw [if_pos trivial, List.append_nil]
  have hs := split_got (strOfNums (frameB W)) (strOfNums (frameP W)) M (by rw [frameB_size]; omega) (by rw [frameP_size]; omega) (by omega)
  rw [hg, frameP_size] at hs
  have hsh : shutR (W, 0, 0, ((frameB W).length : Int)) W.length = (0, 0) := by
    unfold shutR
    rw [if_neg (fun q => absurd q.2 (by simp))]
  rw [hsh, if_pos rfl] at hs
  refine call hs (pos rfl (pos rfl (Ev.bind (alike_ev W (by omega)) (succ ?_))))
  simp only [depotlaw03_WireBack.j0]
  refine neg (by simp) ?_
  by_cases hz : M = 0
  · exact pos hz (now rfl)
  · refine neg hz ?_
    rw [w64 (x := M - 1) (by omega) (by omega)]
    have hm1 : m0 (M - 1) = M - 1 := by unfold m0; rw [if_neg (by omega)]
    have hl6 := parse_long (M - 1) W 0 hWf (by
      rcases hLi with h | ⟨x, hx, h1, h2⟩
      · exact absurd h hz
      · exact ⟨x, hx, h1, by omega⟩)
    have hg2 : (got (strOfNums (frameB W)) (strOfNums (frameP W)) (M - 1)).2.1 = 6 := by
      rw [got_none (by rw [frameP_bs]; exact letters W 0), frameP_bs, numsOf_str _ (frameB_range W), hm1]
      exact hl6
    have hs2 := split_got (strOfNums (frameB W)) (strOfNums (frameP W)) (M - 1) (by rw [frameB_size]; omega) (by rw [frameP_size]; omega) (by omega)
    have hsh2 : (shutR (got (strOfNums (frameB W)) (strOfNums (frameP W)) (M - 1)) (strOfNums (frameP W)).size).1 = 6 := by
      unfold shutR
      rw [if_neg (fun q => absurd (hg2.symm.trans q.1) (by decide))]
      exact hg2
    rw [hsh2, if_neg (by decide)] at hs2
    exact call hs2 (pos rfl (now rfl))
end Go.Proofs.Ytnilogameaaooaa.Pure
/- depotlaw03.WireShort answers true for every list of items, every cut and every byte, the items in at most 2^20 values and letters. -/
set_option linter.unusedVariables false
set_option linter.unusedSimpArgs false
namespace Go.Proofs.Ytnilogameaaooaa.Pure
open Go.RowKit Go.Proofs.Ytnilogameaaooaa.Q Go.Proofs.Ytnilogameaaooaa.Rdr Go.Proofs.Ytnilogameaaooaa.Tail Go.Proofs.YtnilogameaaooaaW.PrintWords Go.Proofs.YtnilogameaaooaaW.PrintLast Go.Proofs.YtnilogameaaooaaW.PrintMore Go.Proofs.Ytnilogameaaooaa.Bytes Go.Proofs.Ytnilogameaaooaa.Evs

theorem WireShort : ∀ (x0 : List It) (x1 : Int) (x2 : Int), (∀ n ∈ (((x0).length * Try.prog.bytesOf 55) :: (x0).flatMap (fun y3 => (([] : List Nat) ++ (([] : List Nat) ++ [((y3).f2).size])))), n ≤ 140737488351232) → ((x0).length ≤ maxLen ∧ ∀ y3 ∈ x0, (True ∧ ((Lit.int .u64 ((y3).f1)).wf = true ∧ ((y3).f2).size ≤ maxLen))) → (Lit.int .i64 x1).wf = true → (Lit.int .u8 x2).wf = true → (((x0).map (fun y3 => ((1 + (1 + (((y3).f2).size + 1))) + 1))).sum + 1) + 1 + 1 ≤ 1048576 → ∃ k, depotlaw03_WireShort.f k (x0) (x1) (x2) = some true := by
  intro W cut b _ hw hcw hbw hk
  have hb : 0 ≤ b ∧ b < 256 := by have := bounds_u8 hbw; omega
  have hlen := len_le_sum W
  have hWf : ∀ x ∈ W, Fit x := fun x hx => fit_of (hw.2 x hx).2.1 (by have := size_le_sum W x hx; omega)
  have hB := frameB_small W
  have hWB : (frameB W).length ≤ 4194304 := by omega
  apply Ev.rounds
  simp only [depotlaw03_WireShort.f]
  have hL0 := lng_ge W 0
  have hLa := lng_all W 0
  have hLi := lng_is W 0
  obtain ⟨M, hM⟩ : ∃ M, lng W 0 = M := ⟨_, rfl⟩
  have hlo := longest_ev W (by omega)
  rw [hM] at hlo hL0 hLa hLi
  have hMs : M ≤ 1099511627776 := by
    rcases hLi with h | ⟨x, hx, h1, h2⟩
    · omega
    · have := (hWf x hx).2
      omega
  have hmM : m0 M = M := by unfold m0; rw [if_neg (by omega)]
  have hb1 : Byts [b] := fun x hx => by rw [List.mem_singleton.1 hx]; exact hb
  refine Ev.bind awake_ev (pos rfl (Ev.bind (framed_ev W hWf (by omega) (by omega)) (Ev.bind hlo (call rfl ?_))))
  have hz : (strOfNums [b]).size = 1 := rfl
  have happ : strOfNums (frameB W) ++ strOfNums [b] = strOfNums (frameB W ++ [b]) := by
    apply bs_inj
    rw [bs_append, bs_strOfNums, bs_strOfNums, bs_strOfNums, List.map_append]
  refine pos (by rw [hz, frameB_size]; omega) ?_
  rw [happ]
  have hg := got_framed W [b] hb1 M hWf (by rw [hmM]; exact hLa)
  have hg : got (strOfNums (frameB W ++ [b])) (strOfNums (frameP W)) M = (W.map plain1, 5, ((frameB W).length : Int), ((frameB W).length : Int)) := by
    rw [hg]
    simp only [parse]
    rw [if_neg (by simp), List.append_nil]
  have hsz : (strOfNums (frameB W ++ [b])).size = (frameB W).length + 1 := by rw [size_bs, bs_strOfNums, List.length_map, List.length_append]; rfl
  have hs := split_got (strOfNums (frameB W ++ [b])) (strOfNums (frameP W)) M (by rw [hsz]; omega) (by rw [frameP_size]; omega) (by omega)
  rw [hg] at hs
  have hsh : shutR (W.map plain1, 5, ((frameB W).length : Int), ((frameB W).length : Int)) (strOfNums (frameP W)).size = (5, ((frameB W).length : Int)) := by
    unfold shutR
    rw [if_neg (fun q => absurd (show (5 : Int) = 0 from q.1) (by decide))]
  rw [hsh, if_neg (show ¬ (5 : Int) = 0 by decide)] at hs
  refine call hs (pos rfl (succ ?_))
  simp only [depotlaw03_WireShort.j0]
  rw [frameB_size]
  refine neg (by simp) ?_
  by_cases c1 : cut < 0
  · exact pos c1 (now rfl)
  · refine neg c1 ?_
    by_cases c2 : cut ≥ ((frameB W).length : Int)
    · exact pos c2 (now rfl)
    · obtain ⟨c, rfl⟩ := Int.eq_ofNat_of_zero_le (show 0 ≤ cut by omega)
      rw [Int.toNat_natCast]
      refine neg c2 (pos (by omega) (pos (by omega) ?_))
      have hx : (strOfNums (frameB W)).extract 0 c = strOfNums ((frameB W).take c) := by
        apply bs_inj
        rw [bs_extract, bs_strOfNums, bs_strOfNums, List.drop_zero, Nat.sub_zero, List.map_take]
      rw [hx]
      have hbt : Byts ((frameB W).take c) := byts_take (frameB_range W) c
      obtain ⟨p1, p2⟩ := parse_short M W c 0 hWf hLa (by omega)
      have hg2 : got (strOfNums ((frameB W).take c)) (strOfNums (frameP W)) M = parse M (W.map letter) ((frameB W).take c) 0 := by
        rw [got_none (by rw [frameP_bs]; exact letters W 0), frameP_bs, numsOf_str _ hbt, hmM]
      have hs2 := split_got (strOfNums ((frameB W).take c)) (strOfNums (frameP W)) M (by rw [size_bs, bs_strOfNums, List.length_map, List.length_take]; omega) (by rw [frameP_size]; omega) (by omega)
      have hsh2 : shutR (got (strOfNums ((frameB W).take c)) (strOfNums (frameP W)) M) (strOfNums (frameP W)).size = (4, (c : Int)) := by
        unfold shutR
        rw [hg2, frameP_size, p1, if_pos ⟨rfl, by omega⟩, Int.zero_add]
      rw [hsh2, if_neg (show ¬ (4 : Int) = 0 by decide)] at hs2
      exact call hs2 (pos rfl (now (by simp)))
end Go.Proofs.Ytnilogameaaooaa.Pure
/- What came in, opened by its kind: a reading of a value ys data gives the Lean value of the print's kinds, with its sizes. For rows over slices and structs. -/
set_option linter.unusedVariables false
set_option linter.unusedSimpArgs false
namespace Go.Proofs.Ytnilogameaaooaa.Opens
open Go.RowKit Go.Deep Go.Proofs.YtnilogameaaooaaW.PrintWords

section
variable {α β : Type}
/-- A reading at type t gives a value of kind d: its cells (K), its weights (each no more than one of the datum's, or 0), its bulk, and what is good about its numbers. -/
structure Opens (P : Program) (t : TypeId) (d : Kd α) (Wt : α → List Nat) (Bk : α → Nat) (Gd : α → Prop) : Prop where
  sz : P.cellsOf t = d.sz
  out : ∀ {H : Type} {enc : TypeId × Value → H} {w : World} {base : Nat} {spare : Nat → Bool} {held : Bool} {fuel : Nat} {cs : List Value} {x : DataW H × List MemPlace},
    DataW.trod enc P w base spare held fuel t cs = some x → ∃ a, d.K w a cs ∧ (∀ n ∈ Wt a, n = 0 ∨ ∃ m ∈ x.1.weights P t, n ≤ m) ∧ Bk a ≤ Rows.uptoBulk x.1 ∧ Gd a

variable {P : Program} {t : TypeId}
theorem opens_string (ht : P.underlying t = some .string) (hs : P.cellsOf t = 1) : Opens P t Kd.string (fun s => [s.size]) (fun s => s.size + 1) (fun s => s.size ≤ maxLen) := by
  refine ⟨hs, fun {H enc w base spare held fuel cs x} h => ?_⟩
  obtain ⟨s, rfl, rfl, hw⟩ := DataW.trod_string ht h
  refine ⟨s, rfl, ?_, ?_, hw⟩
  · intro n hn
    rw [List.mem_singleton] at hn
    refine .inr ⟨s.data.toList.length, by rw [DataW.weights]; exact List.mem_singleton.2 rfl, ?_⟩
    rw [hn, Array.length_toList]
    exact Nat.le_refl _
  · rw [Rows.uptoBulk, Array.length_toList]
    exact Nat.le_refl _
theorem opens_bool (ht : P.underlying t = some .bool) (hs : P.cellsOf t = 1) : Opens P t Kd.bool (fun _ => []) (fun _ => 1) (fun _ => True) := by
  refine ⟨hs, fun {H enc w base spare held fuel cs x} h => ?_⟩
  obtain ⟨b, rfl, rfl⟩ := DataW.trod_bool ht h
  exact ⟨b, rfl, fun _ h => absurd h (by simp), by rw [Rows.uptoBulk] <;> simp, trivial⟩
theorem opens_int {k : IntKind} (ht : P.underlying t = some (.int k)) (hs : P.cellsOf t = 1) : Opens P t (Kd.int k) (fun _ => []) (fun _ => 1) (fun n => (Lit.int k n).wf = true) := by
  refine ⟨hs, fun {H enc w base spare held fuel cs x} h => ?_⟩
  obtain ⟨n, rfl, rfl, hw⟩ := DataW.trod_int ht h
  exact ⟨n, rfl, fun _ h => absurd h (by simp), by rw [Rows.uptoBulk] <;> simp, hw⟩

theorem list_of {Q : Nat → α → Prop} : ∀ (n : Nat), (∀ i, i < n → ∃ a, Q i a) → ∃ ys : List α, ys.length = n ∧ ∀ i a, ys[i]? = some a → Q i a
  | 0, _ => ⟨[], rfl, fun i a h => by simp at h⟩
  | n + 1, h => by
    obtain ⟨ys, hl, hq⟩ := list_of n (fun i hi => h i (by omega))
    obtain ⟨a, ha⟩ := h n (by omega)
    refine ⟨ys ++ [a], by simp [hl], fun i b hb => ?_⟩
    rcases Nat.lt_or_ge i n with hi | hi
    · rw [List.getElem?_append_left (by omega)] at hb
      exact hq i b hb
    · have : i < (ys ++ [a]).length := (List.getElem?_eq_some_iff.1 hb).1
      simp [hl] at this
      have e : i = n := by omega
      subst e
      rw [List.getElem?_append_right (by omega), hl, Nat.sub_self] at hb
      simp at hb
      subst hb
      exact ha
theorem sum_le_range (ys : List α) (Bk : α → Nat) (b : Nat → Nat) (h : ∀ i a, ys[i]? = some a → Bk a ≤ b i) : (ys.map Bk).sum ≤ ((List.range ys.length).map b).sum := by
  induction ys generalizing b with
  | nil => simp
  | cons a ys ih =>
    have h0 := h 0 a rfl
    have h1 := ih (fun i => b (i + 1)) (fun i a ha => h (i + 1) a (by simpa using ha))
    rw [List.length_cons, List.range_succ_eq_map, List.map_cons, List.sum_cons, List.map_cons, List.sum_cons, List.map_map]
    have e : (List.map (b ∘ Nat.succ) (List.range ys.length)) = List.map (fun i => b (i + 1)) (List.range ys.length) := rfl
    rw [e]
    omega
theorem bulkAll_sum {H : Type} (l : List (DataW H)) : Rows.uptoBulkAll l = (l.map Rows.uptoBulk).sum := by
  induction l with
  | nil => rfl
  | cons d l ih => rw [Rows.uptoBulkAll, ih, List.map_cons, List.sum_cons]
theorem weightsAll_mem {H : Type} {e : TypeId} : ∀ (l : List (DataW H)) (d : DataW H), d ∈ l → ∀ m ∈ d.weights P e, m ∈ DataW.weightsAll P e l
  | [], d, h => absurd h (by simp)
  | d' :: l, d, h => by
    intro m hm
    rw [DataW.weightsAll, List.mem_append]
    rcases List.mem_cons.1 h with rfl | h
    · exact .inl hm
    · exact .inr (weightsAll_mem l d h m hm)

theorem opens_slice {e : TypeId} {d : Kd α} {Wt : α → List Nat} {Bk : α → Nat} {Gd : α → Prop} (ht : P.underlying t = some (.slice e)) (hs : P.cellsOf t = 1) (he : Opens P e d Wt Bk Gd) :
    Opens P t (Kd.slice e d) (fun xs => (xs.length * P.bytesOf e) :: xs.flatMap Wt) (fun xs => (xs.map Bk).sum + 1) (fun xs => xs.length ≤ maxLen ∧ ∀ x ∈ xs, Gd x) := by
  refine ⟨hs, fun {H enc w base spare held fuel cs x} h => ?_⟩
  rcases open_slice ht h with ⟨rfl, rfl⟩ | ⟨a, len, cap, m, n, D, Pl, rfl, hb, hl, hm, hmm, rfl, hx⟩
  · exact ⟨[], ⟨none, 0, rfl, Nat.le_refl _, Kd.C_nil d w⟩, fun n hn => .inl (by simpa using hn), by rw [Rows.uptoBulk]; simp, by simp, by simp⟩
  · have hlm : len ≤ m := by rw [hmm]; split <;> omega
    have each : ∀ i, i < len → ∃ b : α, (∃ cs', w.cells? base (a.add (i * P.cellsOf e)) (P.cellsOf e) = some cs' ∧ d.K w b cs') ∧ (∀ q ∈ Wt b, q = 0 ∨ ∃ r ∈ (D i).weights P e, q ≤ r) ∧ Bk b ≤ Rows.uptoBulk (D i) ∧ Gd b := by
      intro i hi
      obtain ⟨cs', h1, h2⟩ := hx i (by omega)
      obtain ⟨b, hK, hw, hk, hg⟩ := he.out h2
      exact ⟨b, ⟨cs', h1, hK⟩, hw, hk, hg⟩
    obtain ⟨ys, hal, has⟩ := list_of len each
    subst hal
    refine ⟨ys, ⟨some a, cap, rfl, hl, rfl, by unfold maxLen at hm; omega, fun hp => ⟨a, rfl, fun j p hj => ?_⟩⟩, ?_, ?_, by omega, ?_⟩
    · obtain ⟨⟨cs', h1, hK⟩, _⟩ := has j p hj
      refine ⟨cs', d.K_len hK, hK, fun i u hu => ?_⟩
      have hc := World.cells?_some h1
      rw [he.sz] at hc
      obtain ⟨hc0, hc1, hc2⟩ := hc
      have hi : i < d.sz := by rw [← d.K_len hK]; exact (List.getElem?_eq_some_iff.1 hu).1
      have := hc2 i (by omega)
      rw [hu] at this
      rw [Go.Deep.add_add] at this
      exact this
    · intro q hq
      rw [List.mem_cons, List.mem_flatMap] at hq
      have hwt : (DataW.slice ((List.range ys.length).map D) ((List.range (m - ys.length)).map fun j => D (ys.length + j)) : DataW H).weights P t = (((List.range ys.length).map D).length + ((List.range (m - ys.length)).map fun j => D (ys.length + j)).length) * P.bytesOf e :: (DataW.weightsAll P e ((List.range ys.length).map D) ++ DataW.weightsAll P e ((List.range (m - ys.length)).map fun j => D (ys.length + j))) := by
        rw [DataW.weights, ht]
      show q = 0 ∨ ∃ r ∈ (DataW.slice ((List.range ys.length).map D) ((List.range (m - ys.length)).map fun j => D (ys.length + j)) : DataW H).weights P t, q ≤ r
      rw [hwt]
      rcases hq with rfl | ⟨b, hbm, hq⟩
      · refine .inr ⟨_, List.mem_cons_self, ?_⟩
        refine Nat.mul_le_mul_right _ ?_
        simp
      · obtain ⟨i, hi⟩ := List.getElem?_of_mem hbm
        have hil : i < ys.length := (List.getElem?_eq_some_iff.1 hi).1
        obtain ⟨_, hw, _⟩ := has i b hi
        rcases hw q hq with h0 | ⟨r, hr, hqr⟩
        · exact .inl h0
        · exact .inr ⟨r, List.mem_cons_of_mem _ (List.mem_append_left _ (weightsAll_mem _ (D i) (List.mem_map.2 ⟨i, List.mem_range.2 hil, rfl⟩) r hr)), hqr⟩
    · show _ ≤ Rows.uptoBulk (DataW.slice ((List.range ys.length).map D) ((List.range (m - ys.length)).map fun j => D (ys.length + j)) : DataW H)
      rw [Rows.uptoBulk, bulkAll_sum, List.map_map]
      have := sum_le_range ys Bk (fun i => Rows.uptoBulk (D i)) (fun i b hb => (has i b hb).2.2.1)
      have e2 : (List.map (Rows.uptoBulk ∘ D) (List.range ys.length)) = List.map (fun i => Rows.uptoBulk (D i)) (List.range ys.length) := rfl
      rw [e2]
      omega
    · intro b hbm
      obtain ⟨i, hi⟩ := List.getElem?_of_mem hbm
      exact (has i b hi).2.2.2

/-- Fields, from a place on. -/
structure OpensF (P : Program) (fs : List Field) (off : Nat) (d : Kd α) (Wt : α → List Nat) (Bk : α → Nat) (Gd : α → Prop) : Prop where
  out : ∀ {H : Type} {enc : TypeId × Value → H} {w : World} {base : Nat} {spare : Nat → Bool} {held : Bool} {fuel : Nat} {cs : List Value} {xs : List (DataW H × List MemPlace)},
    cs.length = off + d.sz → xs.length = fs.length → (∀ (i : Nat) (f : Field), fs[i]? = some f → DataW.trod enc P w base spare held fuel f.type ((cs.drop f.offset).take (P.cellsOf f.type)) = xs[i]?) →
    ∃ a, d.K w a (cs.drop off) ∧ (∀ n ∈ Wt a, n = 0 ∨ ∃ m ∈ DataW.weightsEach P (fs.map (·.type)) (xs.map (·.1)), n ≤ m) ∧ Bk a ≤ Rows.uptoBulkAll (xs.map (·.1)) ∧ Gd a
theorem opensF_one {f : Field} {off : Nat} {d : Kd α} {Wt : α → List Nat} {Bk : α → Nat} {Gd : α → Prop} (ho : f.offset = off) (he : Opens P f.type d Wt Bk Gd) : OpensF P [f] off d Wt Bk Gd := by
  refine ⟨fun {H enc w base spare held fuel cs xs} hc hl h => ?_⟩
  match xs, hl with
  | [x], _ =>
    have h0 := h 0 f rfl
    rw [ho, he.sz, List.take_of_length_le (by rw [List.length_drop]; omega)] at h0
    obtain ⟨a, hK, hw, hb, hg⟩ := he.out h0
    refine ⟨a, hK, fun n hn => ?_, ?_, hg⟩
    · rcases hw n hn with h | ⟨m, hm, hle⟩
      · exact .inl h
      · refine .inr ⟨m, ?_, hle⟩
        simp only [List.map_cons, List.map_nil, DataW.weightsEach, List.append_nil]
        exact hm
    · simp only [List.map_cons, List.map_nil, Rows.uptoBulkAll]
      omega
theorem opensF_cons {f : Field} {fs : List Field} {off : Nat} {d : Kd α} {d' : Kd β} {Wt : α → List Nat} {Bk : α → Nat} {Gd : α → Prop} {Wt' : β → List Nat} {Bk' : β → Nat} {Gd' : β → Prop}
    (ho : f.offset = off) (he : Opens P f.type d Wt Bk Gd) (hr : OpensF P fs (off + d.sz) d' Wt' Bk' Gd') :
    OpensF P (f :: fs) off (Kd.pair d d') (fun x => Wt x.1 ++ Wt' x.2) (fun x => Bk x.1 + Bk' x.2) (fun x => Gd x.1 ∧ Gd' x.2) := by
  refine ⟨fun {H enc w base spare held fuel cs xs} hc hl h => ?_⟩
  have hsz : (Kd.pair d d').sz = d.sz + d'.sz := rfl
  rw [hsz] at hc
  match xs, hl with
  | x :: xs, hl =>
    have h0 := h 0 f rfl
    rw [ho, he.sz] at h0
    obtain ⟨a, hK, hw, hb, hg⟩ := he.out h0
    obtain ⟨b, hK', hw', hb', hg'⟩ := hr.out (enc := enc) (w := w) (base := base) (spare := spare) (held := held) (fuel := fuel) (cs := cs) (xs := xs) (by omega) (by simpa using hl) (fun i f' hf => by simpa using h (i + 1) f' (by simpa using hf))
    refine ⟨(a, b), ⟨(cs.drop off).take d.sz, cs.drop (off + d.sz), ?_, hK, hK'⟩, fun n hn => ?_, ?_, hg, hg'⟩
    · rw [← List.drop_drop, List.take_append_drop]
    · simp only [List.map_cons, DataW.weightsEach, List.mem_append]
      rcases List.mem_append.1 hn with hn | hn
      · rcases hw n hn with h | ⟨m, hm, hle⟩
        · exact .inl h
        · exact .inr ⟨m, .inl hm, hle⟩
      · rcases hw' n hn with h | ⟨m, hm, hle⟩
        · exact .inl h
        · exact .inr ⟨m, .inr hm, hle⟩
    · simp only [List.map_cons, Rows.uptoBulkAll]
      omega
theorem opens_struct {fs : Array Field} {d : Kd α} {Wt : α → List Nat} {Bk : α → Nat} {Gd : α → Prop} (ht : P.underlying t = some (.struct fs)) (hs : P.cellsOf t = d.sz) (he : OpensF P fs.toList 0 d Wt Bk Gd) :
    Opens P t d Wt (fun a => Bk a + 1) Gd := by
  refine ⟨hs, fun {H enc w base spare held fuel cs x} h => ?_⟩
  obtain ⟨xs, n, rfl, rfl, hl, hl2, hx⟩ := DataW.trod_struct ht h
  obtain ⟨a, hK, hw, hb, hg⟩ := he.out (enc := enc) (w := w) (base := base) (spare := spare) (held := held) (fuel := n) (cs := cs) (xs := xs) (by omega) (by simpa using hl2) (fun i f hf => hx i f (by simpa using hf))
  refine ⟨a, by simpa using hK, fun n hn => ?_, ?_, hg⟩
  · rcases hw n hn with h | ⟨m, hm, hle⟩
    · exact .inl h
    · refine .inr ⟨m, ?_, hle⟩
      show m ∈ (DataW.agg (xs.map (·.1))).weights P t
      rw [DataW.weights, ht]
      exact hm
  · show _ ≤ Rows.uptoBulk (DataW.agg (xs.map (·.1)))
    rw [Rows.uptoBulk]
    omega
theorem opens_iso {d : Kd α} {Wt : α → List Nat} {Bk : α → Nat} {Gd : α → Prop} (f : β → α) (g : α → β) (hfg : ∀ a, f (g a) = a) (h : Opens P t d Wt Bk Gd) : Opens P t (Kd.iso d f) (fun b => Wt (f b)) (fun b => Bk (f b)) (fun b => Gd (f b)) := by
  refine ⟨h.sz, fun {H enc w base spare held fuel cs x} hx => ?_⟩
  obtain ⟨a, hK, hw, hb, hg⟩ := h.out hx
  refine ⟨g a, ?_, ?_, ?_, ?_⟩
  · show d.K w (f (g a)) cs
    rw [hfg]; exact hK
  · rw [hfg]; exact hw
  · rw [hfg]; exact hb
  · rw [hfg]; exact hg

/-- At an argument: its weights are within the reach. -/
theorem arg {H : Type} {enc : TypeId × Value → H} {w : World} {base : Nat} {spare : Nat → Bool} {held : Bool} {v : Value} {dd : DataW H} {ps : List MemPlace} {d : Kd α} {Wt : α → List Nat} {Bk : α → Nat} {Gd : α → Prop} (h : Opens P t d Wt Bk Gd)
    (hx : DataW.Trod enc P w base spare held t v dd ps) : ∃ a, d.K w a v.cells.toList ∧ (∀ n ∈ Wt a, n = 0 ∨ ∃ m ∈ dd.weights P t, n ≤ m) ∧ Bk a ≤ Rows.uptoBulk dd ∧ Gd a := by
  obtain ⟨fuel, hf⟩ := hx
  obtain ⟨a, h1, h2, h3, h4⟩ := h.out hf
  exact ⟨a, h1, h2, h3, h4⟩
/-- Each weight of an argument is within the reach of the form. -/
theorem reach {H : Type} {ts : List TypeId} {ds : List (DataW H)} (h : (DataW.weightsEach P ts ds).all (· ≤ reachBytes) = true) {j : Nat} {t : TypeId} {dd : DataW H} (ht : ts[j]? = some t) (hd : ds[j]? = some dd) {l : List Nat}
    (hw : ∀ n ∈ l, n = 0 ∨ ∃ m ∈ dd.weights P t, n ≤ m) : ∀ n ∈ l, n ≤ 140737488351232 := by
  intro n hn
  rcases hw n hn with h0 | ⟨m, hm, hle⟩
  · omega
  · have := DataW.weights_mem_each ht hd m hm
    rw [List.all_eq_true] at h
    have h1 := of_decide_eq_true (h m this)
    unfold reachBytes at h1
    omega
end
end Go.Proofs.Ytnilogameaaooaa.Opens
