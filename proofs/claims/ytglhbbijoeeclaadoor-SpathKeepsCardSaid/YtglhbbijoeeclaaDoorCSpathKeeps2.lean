/- Texts of this claim, put together: Q22, ShaPad, ExtText, TextPure, HexPure, B32Pure, TextTrue, MakeAll, ExtSpKeeps, DoorSha, Opens, Arr. -/
import Derived.Test.YtglhbbijoeeclaaDoorQ0
import Derived.Test.YtglhbbijoeeclaaDoorCSpathKeeps1
import Derived.Test.YtglhbbijoeeclaaDoorBytes
import Derived.Test.YtglhbbijoeeclaaDoorRowS
import Derived.Test.YtglhbbijoeeclaaDoorRows
import Derived.ProofKit
import Derived.LaidMore
import Derived.LaidLaws
import Derived.LaidHandle
import Derived.OpenShut
import Derived.Test.YtglhbbijoeeclaaDoorWWords
import Derived.Test.YtglhbbijoeeclaaDoorWLast
import Derived.Deep.Slices
import Derived.SizedLaws
import Derived.WideShapes
/- By a program of this session's: a plain Lean function for a Go function, and its contract. -/
namespace Go.Proofs.YtglhbbijoeeclaaDoor.Q
open Go.RowKit Go.Proofs.YtglhbbijoeeclaaDoorW.PrintWords Go.Proofs.YtglhbbijoeeclaaDoorW.PrintLast Go.Proofs.YtglhbbijoeeclaaDoorW.PrintMore
attribute [local go_sem] max2_int min2_int max_two min_two max_three min_three max_four min_four Go.Proofs.YtglhbbijoeeclaaDoor.Ord.str_leq Go.Proofs.YtglhbbijoeeclaaDoor.Ord.str_gtr Go.Proofs.YtglhbbijoeeclaaDoor.Ord.str_geq   -- for this text's walks alone
set_option linter.unusedVariables false
set_option linter.unusedSimpArgs false

/-! ### sha_Pad: function 45 -/
def sha_Pad.l0 : Nat → List Int → Int → Int → Option (ByteArray)
  | 0, _, _, _ => none
  | k + 1, x4, x5, x22 => if x22 < 8 then (if 0 ≤ (wrap64 (8 * x22)) then (if 0 ≤ (wrap64 ((wrap64 ((x4.length : Int) - 1)) - x22)) then (if (wrap64 ((wrap64 ((x4.length : Int) - 1)) - x22)) < (x4.length : Int) then (sha_Pad.l0 k (x4.set ((wrap64 ((wrap64 ((x4.length : Int) - 1)) - x22)) : Int).toNat ((shr .u64 x5 (wrap64 (8 * x22))) % 256)) x5 (wrap64 (x22 + 1))) else (none)) else (none)) else (none)) else (some (strOfNums x4))
def sha_Pad.f (k : Nat) (a0 : Int) : Option (ByteArray) := if a0 < 0 then (some (⟨#[]⟩ : ByteArray)) else (if 0 ≤ (wrap64 ((wrap64 (1 + (Int.tmod (wrap64 (119 - (Int.tmod a0 64))) 64))) + 8)) then (if (wrap64 ((wrap64 (1 + (Int.tmod (wrap64 (119 - (Int.tmod a0 64))) 64))) + 8) : Int).toNat ≤ 281474976710656 then ((some (List.replicate (wrap64 ((wrap64 (1 + (Int.tmod (wrap64 (119 - (Int.tmod a0 64))) 64))) + 8) : Int).toNat 0 : List Int)).bind fun y125 => (if 0 < (y125.length : Int) then (sha_Pad.l0 k (y125.set (0 : Int).toNat 128) (IntKind.u64.wrap ((IntKind.u64.wrap (a0)) * 8)) 0) else (none))) else (none)) else (none))
theorem sha_Pad.mono_l : ∀ k, (∀ y0 y1 y2, LeO (sha_Pad.l0 k y0 y1 y2) (sha_Pad.l0 (k + 1) y0 y1 y2))
  | 0 => fun _ _ _ r h => by simp [sha_Pad.l0] at h
  | k + 1 => by
    have ih0 := sha_Pad.mono_l k
    · intro y0 y1 y2
      unfold sha_Pad.l0
      repeat' first
      | (with_reducible exact ih0 _ _ _)
      | (with_reducible exact LeO.refl _)
      | (with_reducible exact LeO.none _)
      | (with_reducible refine LeO.ite ?_ ?_)
      | (with_reducible refine LeO.bind ?_ (fun _ => ?_))
      | exact ih0 _ _ _
      | exact LeO.none _
      | refine LeO.ite ?_ ?_
      | refine LeO.bind ?_ (fun _ => ?_)
theorem sha_Pad.mono : ∀ a0 k, LeO (sha_Pad.f k a0) (sha_Pad.f (k + 1) a0) := by
  intro a0 k
  have ih0 := sha_Pad.mono_l k
  unfold sha_Pad.f
  repeat' first
      | (with_reducible exact ih0 _ _ _)
      | (with_reducible exact LeO.refl _)
      | (with_reducible exact LeO.none _)
      | (with_reducible refine LeO.ite ?_ ?_)
      | (with_reducible refine LeO.bind ?_ (fun _ => ?_))
      | exact ih0 _ _ _
      | exact LeO.none _
      | refine LeO.ite ?_ ?_
      | refine LeO.bind ?_ (fun _ => ?_)
set_option maxHeartbeats 8000000 in
set_option maxRecDepth 100000 in
theorem sha_Pad.calls (k : Nat) (a0 : Int) (r : ByteArray) (w : World) (h : sha_Pad.f k a0 = some r) :
    Calls Tryd.prog 45 #[.int .i64 a0] w fun e w' => e = .returned (.string r) ∧ Below w.heap.size w w' := by
  have HB := Aside0.mk (Below.refl w.heap.size w)
  have H : (if a0 < 0 then (some (⟨#[]⟩ : ByteArray)) else (if 0 ≤ (wrap64 ((wrap64 (1 + (Int.tmod (wrap64 (119 - (Int.tmod a0 64))) 64))) + 8)) then (if (wrap64 ((wrap64 (1 + (Int.tmod (wrap64 (119 - (Int.tmod a0 64))) 64))) + 8) : Int).toNat ≤ 281474976710656 then ((some (List.replicate (wrap64 ((wrap64 (1 + (Int.tmod (wrap64 (119 - (Int.tmod a0 64))) 64))) + 8) : Int).toNat 0 : List Int)).bind fun y125 => (if 0 < (y125.length : Int) then (sha_Pad.l0 k (y125.set (0 : Int).toNat 128) (IntKind.u64.wrap ((IntKind.u64.wrap (a0)) * 8)) 0) else (none))) else (none)) else (none))) = some r := h
  clear h
  by_cases c2 : a0 < 0
  · rw [if_pos c2] at H
    have c2b0 : decide (a0 < 0) = true := decide_eq_true c2
    clear c2
    obtain rfl := Option.some.inj H
    go_enter Tryd.func45, Tryd.ntmps45
    go_wp2
    go_ret
    exact ⟨by first | rfl | (simp [errW_none, errW_some] <;> rfl) | (simp [*, errW_none, errW_some] <;> rfl), by repeat (first | (with_reducible first | exact HB.out | apply below_alloc | apply pw_below_drewN | apply below_drew1) | exact HB.out)⟩
  · rw [if_neg c2] at H
    have c2b0 : decide (a0 < 0) = false := decide_eq_false c2
    clear c2
    obtain ⟨ji3, hji3⟩ : ∃ j_ : Int, (wrap64 ((wrap64 (1 + (Int.tmod (wrap64 (119 - (Int.tmod a0 64))) 64))) + 8)) = j_ := ⟨_, rfl⟩
    replace H : (if 0 ≤ (ji3) then (if (ji3 : Int).toNat ≤ 281474976710656 then ((some (List.replicate (ji3 : Int).toNat 0 : List Int)).bind fun y125 => (if 0 < (y125.length : Int) then (sha_Pad.l0 k (y125.set (0 : Int).toNat 128) (IntKind.u64.wrap ((IntKind.u64.wrap (a0)) * 8)) 0) else (none))) else (none)) else (none)) = some r := by first | (rw [hji3] at H; exact H) | (simp only [hji3] at H ⊢; exact H)
    have hji3w : (IntKind.i64.wrap ((wrap64 (1 + (Int.tmod (wrap64 (119 - (Int.tmod a0 64))) 64))) + 8)) = ji3 := (i64_w _).trans hji3
    by_cases c4 : 0 ≤ (ji3)
    · rw [if_pos c4] at H
      have c4b0 := eq_true c4
      have c4b1 : decide (0 ≤ (ji3)) = true := decide_eq_true c4
      clear c4
      by_cases c5 : (ji3 : Int).toNat ≤ 281474976710656
      · rw [if_pos c5] at H
        have c5b0 := eq_true c5
        have c5b1 : decide ((ji3 : Int).toNat ≤ 281474976710656) = true := decide_eq_true c5
        clear c5
        obtain ⟨y125, hy125⟩ : ∃ y_ : List Int, y_ = (List.replicate (ji3 : Int).toNat 0) := ⟨_, rfl⟩
        replace H : (if 0 < (y125.length : Int) then (sha_Pad.l0 k (y125.set (0 : Int).toNat 128) (IntKind.u64.wrap ((IntKind.u64.wrap (a0)) * 8)) 0) else (none)) = some r := by first | (rw [hy125]; with_reducible exact H) | (have H2_ := (Option.bind_some _ _).symm.trans H; rw [hy125]; with_reducible exact H2_) | (have H2_ := (Option.bind_some _ _).symm.trans H; with_reducible exact H2_) | with_reducible exact H | (rw [hy125]; exact H) | exact H
        have Ny125 := Aside0.mk hy125
        clear hy125
        by_cases c6 : 0 < (y125.length : Int)
        · rw [if_pos c6] at H
          have c6b0 : decide (0 < (y125.length : Int)) = true := decide_eq_true c6
          have c6b1 : decide (0 < y125.length) = true := decide_eq_true (by omega)
          clear c6
          obtain ⟨y128, hy128⟩ : ∃ y_ : List Int, y_ = (y125.set (0 : Int).toNat 128) := ⟨_, rfl⟩
          replace H : (sha_Pad.l0 k y128 (IntKind.u64.wrap ((IntKind.u64.wrap (a0)) * 8)) 0) = some r := by first | (rw [hy128]; with_reducible exact H) | (have H2_ := (Option.bind_some _ _).symm.trans H; rw [hy128]; with_reducible exact H2_) | (have H2_ := (Option.bind_some _ _).symm.trans H; with_reducible exact H2_) | with_reducible exact H | (rw [hy128]; exact H) | exact H
          have Ny128 := Aside0.mk hy128
          clear hy128
          have H' := Aside0.mk H
          clear H
          go_enter Tryd.func45, Tryd.ntmps45
          go_wp2_with (first | ((with_reducible refine gate_dst (N := 16) rfl ?_); refine Kd.R_make (Kd.int .u8) _ 5 rfl (N := 16) rfl 34 _ _ rfl ji3 rfl rfl Tryd.underlying34 (.int .u8 0) 1 info5 rfl (by decide) (by omega) 0 (ok := fun _ => True) (okp := fun _ => True) rfl (fun _ hk => hk) trivial (of_decide_eq_true (by first | (with_reducible assumption) | assumption)) (Nat.le_trans (Nat.mul_le_mul_right _ (of_decide_eq_true (by first | (with_reducible assumption) | assumption) : ji3.toNat ≤ 281474976710656)) (by omega)) (Below.refl _ _) (Nat.le_refl _) ?_; intro v126 w8 ho9 hb hg_ hnew_; clear hg_ hnew_; (first | rw [← Ny125.out] at ho9 | (simp only [Int.reduceToNat] at ho9; rw [← Ny125.out] at ho9)); have n0_ := Aside0.mk (Kd.R_lower ho9 (below_size (by repeat (first | (with_reducible first | exact HB.out | apply below_alloc | apply pw_below_drewN | apply below_drew1) | exact HB.out)))); have n1_ := Aside0.mk (below_step (by repeat (first | (with_reducible first | exact HB.out | apply below_alloc | apply pw_below_drewN | apply below_drew1) | exact HB.out)) hb); clear HB; have HO127 := n0_; have HB := n1_; clear n0_ n1_; clear hb ho9; have p7 : 0 ≤ (0 : Int) := (by omega); have q7 : (0 : Int) < ((y125.length : Int) : Int) := of_decide_eq_true (by first | (with_reducible assumption) | assumption); have qi7 : (0 < y125.length) = True := eq_true (by omega); obtain ⟨go7, co7, eo7, gb7, gl7, cl7, HG7⟩ := Kd.R_form HO127.out (by omega); (first | cases eo7 | (injection eo7 with ea_ en_ ec_; (first | subst ea_ | (injection ea_ with ea_; subst ea_)); subst ec_; clear en_)); have GB7 := Aside0.mk gb7; have GG7 := Aside0.mk HG7; clear gb7 gl7 HG7; obtain ⟨hx7_0, hf7_0⟩ := Kd.R_celln 0 HO127.out (0 : Int) p7 q7; (try rw [show ((0 : Int)).toNat = 0 from rfl] at hx7_0); (try simp only [Nat.reduceMul, Nat.zero_mul, Nat.zero_add, Nat.reduceAdd] at hx7_0); (try rw [show ((0 : Int)).toNat = 0 from rfl] at hf7_0); (try simp only [Nat.reduceMul, Nat.zero_mul, Nat.zero_add, Nat.reduceAdd] at hf7_0); replace p7 := eq_true p7; replace q7 := eq_true q7; obtain ⟨hy10_, hz10_⟩ := Kd.R_celln 0 HO127.out (0 : Int) (by omega) (of_decide_eq_true (by first | (with_reducible assumption) | assumption)); (try simp only [Int.reduceToNat, Int.toNat_zero, Int.toNat_ofNat, Nat.reduceMul, Nat.zero_mul, Nat.zero_add] at hy10_ hz10_); (try rw [show ((0 : Int)).toNat = 0 from rfl] at hy10_); (try rw [show ((0 : Int)).toNat = 0 from rfl] at hz10_); have HP10 := Kd.R_putg HO127.out (0 : Int) 128) | ((with_reducible refine gate_store (t := 5) (p := 18) rfl ?_); refine store_event (t := 5) (p := 18) (v := ?vo_w11) (w1 := (w8.setCell ⟨go7, (0 : Int).toNat, none⟩ (.int .u8 128))) ?hg ?ho ?hn ?hr ?_; (case ho => rfl); (case hg => rfl); (case hn => rfl); (case hr => first | (go_simp; done) | (go_simp; rfl)); intro w11 hw; have hg : w8.grownBy w11 (some go7) := (by rw [hw]; exact HP10.2); have hp_ : Kd.R (Kd.int .u8) 5 w11 w.heap.size (fun _ => True) (.slice (some ⟨go7, 0, none⟩) y125.length co7) y128 := (by rw [hw, Ny128.out]; exact HP10.1); clear HP10; have n0_ := Aside0.mk (hp_); have n1_ := Aside0.mk ((by rw [hw]; exact below_set (HB.out) GB7.out : Below w.heap.size w w11)); clear HO127; clear HB; have HO127 := n0_; have HB := n1_; clear n0_ n1_; clear hg hw hp_))
          go_loopg [22] k (fun kq v22 w' => ∃ (x4_1 : List Int) (x22_1 : Int), v22 = .int .i64 x22_1 ∧ Aside0 (sha_Pad.l0 kq x4_1 (IntKind.u64.wrap ((IntKind.u64.wrap (a0)) * 8)) x22_1 = some r) ∧ Aside0 (kq ≤ k) ∧ Aside0 (Kd.R (Kd.int .u8) 5 w' w.heap.size (fun _ => True) (.slice (some ⟨go7, 0, none⟩) y125.length co7) x4_1) ∧ Aside0 (Below w.heap.size w w'))
          case atStart => exact ⟨(y128), (0), (by first | rfl | (simp; done) | (simp [*]; done)), H', ⟨Nat.le_refl _⟩, ⟨by (with_reducible repeat (first | apply Kd.R_alloc | apply Kd.R_drewN | apply Kd.R_drew)); exact HO127.out⟩, ⟨by repeat (first | (with_reducible first | exact HB.out | apply below_alloc | apply pw_below_drewN | apply below_drew1) | exact HB.out)⟩⟩
          case round =>
            clear H'
            try clear c2
            try clear c2b0
            try clear p2
            try clear c4
            try clear c4b0
            try clear c4b1
            try clear c5
            try clear c5b0
            try clear c5b1
            try clear c6
            try clear c6b0
            try clear c6b1
            try clear p6
            try clear p7
            try clear q7
            try clear hx7
            try clear qi7
            try clear hf7
            try clear hx7_0
            try clear p7
            try clear q7
            obtain ⟨x4_1, x22_1, rfl, HA, HK1, HO_4, HB⟩ := hrel
            have hl4_1 := (Kd.R_reads' HO_4.out).1
            rw [hl4_1] at HO_4
            (try simp only [hl4_1])
            cases gk with
            | zero => exact absurd HA.out (by simp [sha_Pad.l0])
            | succ k1 =>
              have H := HA.out
              clear HA
              simp only [sha_Pad.l0] at H
              by_cases c12 : x22_1 < 8
              · rw [if_pos c12] at H
                have c12b0 : decide (x22_1 < 8) = true := decide_eq_true c12
                clear c12
                obtain ⟨ji13, hji13⟩ : ∃ j_ : Int, (wrap64 (8 * x22_1)) = j_ := ⟨_, rfl⟩
                replace H : (if 0 ≤ (ji13) then (if 0 ≤ (wrap64 ((wrap64 ((x4_1.length : Int) - 1)) - x22_1)) then (if (wrap64 ((wrap64 ((x4_1.length : Int) - 1)) - x22_1)) < (x4_1.length : Int) then (sha_Pad.l0 k1 (x4_1.set ((wrap64 ((wrap64 ((x4_1.length : Int) - 1)) - x22_1)) : Int).toNat ((shr .u64 (IntKind.u64.wrap ((IntKind.u64.wrap (a0)) * 8)) (ji13)) % 256)) (IntKind.u64.wrap ((IntKind.u64.wrap (a0)) * 8)) (wrap64 (x22_1 + 1))) else (none)) else (none)) else (none)) = some r := by first | (rw [hji13] at H; exact H) | (simp only [hji13] at H ⊢; exact H)
                have hji13w : (IntKind.i64.wrap (8 * x22_1)) = ji13 := (i64_w _).trans hji13
                by_cases c14 : 0 ≤ (ji13)
                · rw [if_pos c14] at H
                  have c14b0 := eq_true c14
                  have c14b1 : decide (0 ≤ (ji13)) = true := decide_eq_true c14
                  clear c14
                  obtain ⟨ji15, hji15⟩ : ∃ j_ : Int, (shr .u64 (IntKind.u64.wrap ((IntKind.u64.wrap (a0)) * 8)) (ji13)) = j_ := ⟨_, rfl⟩
                  replace H : (if 0 ≤ (wrap64 ((wrap64 ((x4_1.length : Int) - 1)) - x22_1)) then (if (wrap64 ((wrap64 ((x4_1.length : Int) - 1)) - x22_1)) < (x4_1.length : Int) then (sha_Pad.l0 k1 (x4_1.set ((wrap64 ((wrap64 ((x4_1.length : Int) - 1)) - x22_1)) : Int).toNat ((ji15) % 256)) (IntKind.u64.wrap ((IntKind.u64.wrap (a0)) * 8)) (wrap64 (x22_1 + 1))) else (none)) else (none)) = some r := by first | (rw [hji15] at H; exact H) | (simp only [hji15] at H ⊢; exact H)
                  have hji15_ : ((IntKind.u64.wrap ((IntKind.u64.wrap (a0)) * 8)) / 2 ^ min (ji13).toNat 64) = ji15 := hji15
                  have hji15z : (ji13) ≤ 64 → ((IntKind.u64.wrap ((IntKind.u64.wrap (a0)) * 8)) / 2 ^ (ji13).toNat) = ji15 := shr_small hji15
                  obtain ⟨ji16, hji16⟩ : ∃ j_ : Int, (wrap64 ((wrap64 ((x4_1.length : Int) - 1)) - x22_1)) = j_ := ⟨_, rfl⟩
                  replace H : (if 0 ≤ (ji16) then (if (ji16) < (x4_1.length : Int) then (sha_Pad.l0 k1 (x4_1.set ((ji16) : Int).toNat ((ji15) % 256)) (IntKind.u64.wrap ((IntKind.u64.wrap (a0)) * 8)) (wrap64 (x22_1 + 1))) else (none)) else (none)) = some r := by first | (rw [hji16] at H; exact H) | (simp only [hji16] at H ⊢; exact H)
                  have hji16w : (IntKind.i64.wrap ((wrap64 ((x4_1.length : Int) - 1)) - x22_1)) = ji16 := (i64_w _).trans hji16
                  by_cases c17 : 0 ≤ (ji16)
                  · rw [if_pos c17] at H
                    have c17b0 : decide (0 ≤ (ji16)) = true := decide_eq_true c17
                    clear c17
                    by_cases c18 : (ji16) < (x4_1.length : Int)
                    · rw [if_pos c18] at H
                      have c18b0 : decide ((ji16) < (x4_1.length : Int)) = true := decide_eq_true c18
                      clear c18
                      obtain ⟨y129, hy129⟩ : ∃ y_ : List Int, y_ = (x4_1.set ((ji16) : Int).toNat ((ji15) % 256)) := ⟨_, rfl⟩
                      replace H : (sha_Pad.l0 k1 y129 (IntKind.u64.wrap ((IntKind.u64.wrap (a0)) * 8)) (wrap64 (x22_1 + 1))) = some r := by first | (rw [hy129]; with_reducible exact H) | (have H2_ := (Option.bind_some _ _).symm.trans H; rw [hy129]; with_reducible exact H2_) | (have H2_ := (Option.bind_some _ _).symm.trans H; with_reducible exact H2_) | with_reducible exact H | (rw [hy129]; exact H) | exact H
                      have Ny129 := Aside0.mk hy129
                      clear hy129
                      have H' := Aside0.mk H
                      clear H
                      have p19 : 0 ≤ ((ji16) : Int) := of_decide_eq_true (by first | (with_reducible assumption) | assumption)
                      have q19 : ((ji16) : Int) < ((x4_1.length : Int) : Int) := of_decide_eq_true (by first | (with_reducible assumption) | assumption)
                      obtain ⟨hx19_0, hf19_0⟩ := Kd.R_celln 0 HO_4.out ((ji16) : Int) p19 q19
                      replace p19 := eq_true p19
                      replace q19 := eq_true q19
                      have HP20 := Kd.R_putg HO_4.out ((ji16) : Int) ((ji15) % 256)
                      go_wp2_with (first | ((with_reducible refine gate_store (t := 5) (p := 36) rfl ?_); refine store_event (t := 5) (p := 36) (v := ?vo_w21) (w1 := (wr.setCell ⟨go7, ((ji16) : Int).toNat, none⟩ (.int .u8 ((ji15) % 256)))) ?hg ?ho ?hn ?hr ?_; (case ho => rfl); (case hg => rfl); (case hn => rfl); (case hr => first | (go_simp; done) | (go_simp; rfl)); intro w21 hw; have hg : wr.grownBy w21 (some go7) := (by rw [hw]; exact HP20.2); have hp_ : Kd.R (Kd.int .u8) 5 w21 w.heap.size (fun _ => True) (.slice (some ⟨go7, 0, none⟩) x4_1.length co7) y129 := (by rw [hw, Ny129.out]; exact HP20.1); clear HP20; have n0_ := Aside0.mk (hp_); have n1_ := Aside0.mk ((by rw [hw]; exact below_set (HB.out) GB7.out : Below w.heap.size w w21)); clear HO_4; clear HB; have HO_4 := n0_; have HB := n1_; clear n0_ n1_; clear hg hw hp_))
                      (try simp only [← hl4_1])
                      go_roundg k1
                      case measure => have := HK1.out; omega
                      case rel => exact ⟨(y129), (wrap64 (x22_1 + 1)), (by first | rfl | (simp; done) | (simp [*]; done)), H', ⟨by have := HK1.out; omega⟩, ⟨by (try simp only [hl4_1]); (with_reducible repeat (first | apply Kd.R_alloc | apply Kd.R_drewN | apply Kd.R_drew)); exact HO_4.out⟩, ⟨by repeat (first | (with_reducible first | exact HB.out | apply below_alloc | apply pw_below_drewN | apply below_drew1) | exact HB.out)⟩⟩
                    · rw [if_neg c18] at H
                      exact absurd H (by simp)
                  · rw [if_neg c17] at H
                    exact absurd H (by simp)
                · rw [if_neg c14] at H
                  exact absurd H (by simp)
              · rw [if_neg c12] at H
                have c12b0 : decide (x22_1 < 8) = false := decide_eq_false c12
                clear c12
                obtain rfl := Option.some.inj H
                have hcv22 := own_string (P := Tryd.prog) Tryd.underlying34 Tryd.underlying5 Tryd.underlying9 (Kd.own_of_R HO_4.out)
                go_wp2
                go_ret
                exact ⟨by first | rfl | (simp [errW_none, errW_some] <;> rfl) | (simp only [← hji3]; first | rfl | (simp [errW_none, errW_some] <;> rfl)) | (simp [*, errW_none, errW_some] <;> rfl), by repeat (first | (with_reducible first | exact HB.out | apply below_alloc | apply pw_below_drewN | apply below_drew1) | exact HB.out)⟩
        · rw [if_neg c6] at H
          exact absurd H (by simp)
      · rw [if_neg c5] at H
        exact absurd H (by simp)
    · rw [if_neg c4] at H
      exact absurd H (by simp)

end Go.Proofs.YtglhbbijoeeclaaDoor.Q
/- SHA-256: Pad, as printed, is pad. -/
namespace Go.Proofs.YtglhbbijoeeclaaDoor.Sha
open Go.RowKit Go.Proofs.YtglhbbijoeeclaaDoorW.PrintWords Go.Proofs.YtglhbbijoeeclaaDoorW.PrintLast Go.Proofs.YtglhbbijoeeclaaDoorW.PrintMore Go.Proofs.YtglhbbijoeeclaaDoor.Bytes Go.Proofs.YtglhbbijoeeclaaDoor.Q
set_option linter.unusedVariables false
set_option linter.unusedSimpArgs false
/-- A byte of a number. -/
def nib (m i : Nat) : Int := ((m / 2 ^ (8 * i) % 256 : Nat) : Int)
theorem pad_round (k m i : Nat) (x4 : List Int) (hi : i < 8) (h9 : 9 ≤ x4.length) (hb : x4.length < 1000) : sha_Pad.l0 (k + 1) x4 (m : Int) (i : Int) = sha_Pad.l0 k (x4.set (x4.length - 1 - i) (nib m i)) (m : Int) ((i + 1 : Nat) : Int) := by
  have e1 : wrap64 (8 * (i : Int)) = ((8 * i : Nat) : Int) := by rw [w64 (by omega) (by omega)]; omega
  have e2 : wrap64 ((x4.length : Int) - 1) = ((x4.length - 1 : Nat) : Int) := by rw [w64 (by omega) (by omega)]; omega
  have e3 : wrap64 (((x4.length - 1 : Nat) : Int) - (i : Int)) = ((x4.length - 1 - i : Nat) : Int) := by rw [w64 (by omega) (by omega)]; omega
  have e4 : wrap64 ((i : Int) + 1) = ((i + 1 : Nat) : Int) := by rw [w64 (by omega) (by omega)]; omega
  have e5 : shr .u64 (m : Int) ((8 * i : Nat) : Int) % 256 = nib m i := by
    unfold shr nib
    rw [Int.toNat_natCast, Nat.min_eq_left (by show 8 * i ≤ 64; omega), Int.natCast_emod, Int.natCast_ediv, Int.natCast_pow]
    rfl
  rw [sha_Pad.l0, if_pos (by omega), e1, e2, e3, e4, e5, if_pos (Int.natCast_nonneg _), if_pos (Int.natCast_nonneg _), if_pos (by omega), Int.toNat_natCast]
theorem pad_last (k m : Nat) (x4 : List Int) : sha_Pad.l0 (k + 1) x4 (m : Int) ((8 : Nat) : Int) = some (strOfNums x4) := by
  rw [sha_Pad.l0, if_neg (by decide)]
theorem nib_byte (m i c : Nat) (h : 2 ^ (8 * i) = c) : UInt8.ofNat (nib m i).toNat = (m / c).toUInt8 := by
  unfold nib
  rw [Int.toNat_natCast, h]
  apply UInt8.toNat_inj.1
  show (UInt8.ofNat _).toNat = (UInt8.ofNat _).toNat
  rw [UInt8.toNat_ofNat', UInt8.toNat_ofNat']
  omega
theorem pad_f (n : Nat) (hn : n < 1152921504606846976) : sha_Pad.f 9 (n : Int) = some ⟨(pad n).toArray⟩ := by
  obtain ⟨z, hz⟩ : ∃ z, (119 - n % 64) % 64 = z := ⟨_, rfl⟩
  have hzl : z < 64 := by omega
  have t1 : Int.tmod (n : Int) 64 = ((n % 64 : Nat) : Int) := rfl
  have t2 : wrap64 (119 - ((n % 64 : Nat) : Int)) = ((119 - n % 64 : Nat) : Int) := by rw [w64 (by omega) (by omega)]; omega
  have t3 : Int.tmod ((119 - n % 64 : Nat) : Int) 64 = (z : Int) := by rw [← hz]; rfl
  have t4 : wrap64 (1 + (z : Int)) = ((z + 1 : Nat) : Int) := by rw [w64 (by omega) (by omega)]; omega
  have t5 : wrap64 (((z + 1 : Nat) : Int) + 8) = ((z + 9 : Nat) : Int) := by rw [w64 (by omega) (by omega)]; omega
  have t6 : IntKind.u64.wrap (n : Int) = (n : Int) := by rw [IntKind.wrap_u64]; omega
  have t7 : IntKind.u64.wrap ((n : Int) * 8) = ((n * 8 : Nat) : Int) := by rw [IntKind.wrap_u64]; omega
  have hrep : (List.replicate (z + 9) (0 : Int)).set 0 128 = 128 :: (List.replicate z 0 ++ [0, 0, 0, 0, 0, 0, 0, 0]) := by
    rw [show z + 9 = (z + 8) + 1 from rfl, List.replicate_succ, List.set_cons_zero, ← List.replicate_append_replicate]
    rfl
  have hset : ∀ (a0 a1 a2 a3 a4 a5 a6 a7 v : Int) (j : Nat), j < 8 → ((128 : Int) :: (List.replicate z 0 ++ [a0, a1, a2, a3, a4, a5, a6, a7])).set ((z + 9) - 1 - j) v = 128 :: (List.replicate z 0 ++ [a0, a1, a2, a3, a4, a5, a6, a7].set (7 - j) v) := fun a0 a1 a2 a3 a4 a5 a6 a7 v j hj => by
    rw [show z + 9 - 1 - j = (z + 7 - j) + 1 from by omega, List.set_cons_succ, List.set_append_right _ _ (by rw [List.length_replicate]; omega), List.length_replicate, show z + 7 - j - z = 7 - j from by omega]
  have hlen : ∀ (a0 a1 a2 a3 a4 a5 a6 a7 : Int), ((128 : Int) :: (List.replicate z 0 ++ [a0, a1, a2, a3, a4, a5, a6, a7])).length = z + 9 := fun a0 a1 a2 a3 a4 a5 a6 a7 => by
    rw [List.length_cons, List.length_append, List.length_replicate]
    rfl
  have hstep : ∀ (k i : Nat) (a0 a1 a2 a3 a4 a5 a6 a7 : Int), i < 8 → sha_Pad.l0 (k + 1) (128 :: (List.replicate z 0 ++ [a0, a1, a2, a3, a4, a5, a6, a7])) ((n * 8 : Nat) : Int) (i : Int) = sha_Pad.l0 k (128 :: (List.replicate z 0 ++ [a0, a1, a2, a3, a4, a5, a6, a7].set (7 - i) (nib (n * 8) i))) ((n * 8 : Nat) : Int) ((i + 1 : Nat) : Int) := fun k i a0 a1 a2 a3 a4 a5 a6 a7 hi => by
    rw [pad_round k (n * 8) i _ hi (by rw [hlen]; omega) (by rw [hlen]; omega), hlen, hset _ _ _ _ _ _ _ _ _ i hi]
  unfold sha_Pad.f
  rw [if_neg (by omega), t1, t2, t3, t4, t5, if_pos (Int.natCast_nonneg _), if_pos (by rw [Int.toNat_natCast]; omega), Int.toNat_natCast, Option.bind_some, if_pos (by rw [List.length_replicate]; omega), t6, t7, Int.toNat_zero, hrep]
  refine (hstep 8 0 _ _ _ _ _ _ _ _ (by decide)).trans ?_
  refine (hstep 7 1 _ _ _ _ _ _ _ _ (by decide)).trans ?_
  refine (hstep 6 2 _ _ _ _ _ _ _ _ (by decide)).trans ?_
  refine (hstep 5 3 _ _ _ _ _ _ _ _ (by decide)).trans ?_
  refine (hstep 4 4 _ _ _ _ _ _ _ _ (by decide)).trans ?_
  refine (hstep 3 5 _ _ _ _ _ _ _ _ (by decide)).trans ?_
  refine (hstep 2 6 _ _ _ _ _ _ _ _ (by decide)).trans ?_
  refine (hstep 1 7 _ _ _ _ _ _ _ _ (by decide)).trans ?_
  refine (pad_last 0 (n * 8) _).trans ?_
  unfold strOfNums pad
  rw [hz]
  congr 3
  simp only [List.map_cons, List.map_append, List.map_replicate, List.map_nil, List.set_cons_succ, List.set_cons_zero, Nat.sub_self, Nat.reduceSub]
  rw [nib_byte _ 7 72057594037927936 rfl, nib_byte _ 6 281474976710656 rfl, nib_byte _ 5 1099511627776 rfl, nib_byte _ 4 4294967296 rfl, nib_byte _ 3 16777216 rfl, nib_byte _ 2 65536 rfl, nib_byte _ 1 256 rfl, nib_byte _ 0 1 rfl, Nat.div_one]
  rfl
theorem pad_calls : PadCalls := fun n w hn => sha_Pad.calls 9 (n : Int) _ w (pad_f n hn)
end Go.Proofs.YtglhbbijoeeclaaDoor.Sha
/- depotlaw13.SpathText, walked. -/
namespace Go.Proofs.YtglhbbijoeeclaaDoor.Sha
open Go.RowKit Go.Proofs.YtglhbbijoeeclaaDoorW.PrintWords Go.Proofs.YtglhbbijoeeclaaDoorW.PrintLast Go.Proofs.YtglhbbijoeeclaaDoorW.PrintMore Go.Proofs.YtglhbbijoeeclaaDoor.Bytes Go.Proofs.YtglhbbijoeeclaaDoor.Q
set_option linter.unusedVariables false
set_option linter.unusedSimpArgs false
/-- The cells of a row of strings. -/
theorem string_cells {w : World} {A : Option Addr} {xs : List ByteArray} (h : Kd.C Kd.string w A xs.length xs) (h0 : 0 < xs.length) : ∃ b o, A = some ⟨b, o, none⟩ ∧ ∀ j x, xs[j]? = some x → w.cell? ⟨b, o + j, none⟩ = some (.string x) := by
  obtain ⟨ad, rfl, hcells⟩ := h.2.2 h0
  have hcell : ∀ (j : Nat) y, xs[j]? = some y → w.cell? (ad.add j) = some (.string y) := by
    intro j y hy
    obtain ⟨c, hcl, hcy, hu⟩ := hcells j y hy
    have hcy' : c = [Value.string y] := hcy
    subst hcy'
    have := hu 0 (.string y) rfl
    simpa [Kd.string, Kd.scalar] using this
  have hx : xs[0]? = some xs[0] := List.getElem?_eq_getElem h0
  have h1 := hcell 0 _ hx
  have hs : ad.spot = none := by
    have h0' : w.cell? ad = some (.string xs[0]) := h1
    cases hsp : ad.spot with
    | none => rfl
    | some k =>
      unfold World.cell? at h0'
      split at h0'
      · rw [hsp] at h0'; simp at h0'
      · cases h0'
  obtain ⟨b, o, s⟩ := ad
  obtain rfl : s = none := hs
  refine ⟨b, o, rfl, fun j x hj => ?_⟩
  have := hcell j x hj
  rw [Addr.add_mid] at this
  exact this
/-- The text so far. -/
def textTo (refs : List ByteArray) : Nat → ByteArray
  | 0 => treeS
  | k + 1 => textTo refs k ++ (colonS ++ refs.getD k ⟨#[]⟩)
def shaC : ByteArray := ⟨#[58, 115, 104, 97, 50, 53, 54, 58]⟩
def dirC : ByteArray := ⟨#[58, 47, 100, 101, 112, 111, 116, 47, 115, 116, 111, 114, 101, 47, 58]⟩
set_option maxRecDepth 100000 in
set_option maxHeartbeats 8000000 in
theorem text_good (w : World) (hG : Glob w) (A : Option Addr) (c : Nat) (refs : List ByteArray) (d : List UInt8) (hd : d.length = 32) (label hxs txt b32 : ByteArray) (ka kr kh kb : Nat) (hr : Kd.C Kd.string w A refs.length refs) (hc : refs.length ≤ c) (hlen : refs.length ≤ 1024)
    (h0 : depotlaw13_awake.f ka = some true) (h1 : spath_CheckLabel.f label = some 0) (h2 : spath_CheckRefs.f kr refs = some 0) (h3 : radix_Hex.f kh ⟨d.toArray⟩ = some hxs) (h4 : strings_Join.f ([treeS] ++ refs ++ [shaS, hxs, dirS, label]) colonS = some txt) (ht : txt.size < 1152921504606846976)
    (h5 : radix_Base32.f kb ⟨(fold (of txt.data.toList) 20).toArray⟩ = some b32) (hb : b32.size < 1000000) (hll : label.size < 1000000) (hxl : hxs.size < 1000000)
    (hsz : ∀ k, k ≤ refs.length → (textTo refs k).size < 1000000000000) (hrz : ∀ k, (refs.getD k ⟨#[]⟩).size < 1000000)
    (htx : textTo refs refs.length ++ shaC ++ hxs ++ dirC ++ label = txt) :
    Calls Tryd.prog 4 #[.slice A refs.length c, .agg (d.map bcell).toArray, .string label] w fun e w' => e = .returned (.bool true) ∧ Below w.heap.size w w' := by
  have HR28 : Aside0 ((Tryd.prog.info? 28).map (·.size) = some 32) := ⟨by kernel_rfl⟩
  have C0 := Aside0.mk (fun W => depotlaw13_awake.calls ka true W h0)
  have CM := Aside0.mk (fun (W : World) (h : Below w.heap.size w W) => show Calls Tryd.prog 8 #[.slice A refs.length c, .agg (d.map bcell).toArray, .string label] W fun e w' => e = .returned (.tuple #[.string ((⟨#[47, 100, 101, 112, 111, 116, 47, 115, 116, 111, 114, 101, 47]⟩ : ByteArray) ++ b32 ++ (⟨#[45]⟩ : ByteArray) ++ label), .int .i64 0]) ∧ Below W.heap.size W w' from make_good pad_calls W (hG.below h hG.lt) A c refs d hd label hxs txt b32 kr kh kb (Kd.C_below hr h) hc hlen h1 h2 h3 h4 ht h5 hb hll)
  have C3 := Aside0.mk (fun W => radix_Hex.calls kh ⟨d.toArray⟩ hxs W h3)
  have C5 := Aside0.mk (fun W => radix_Base32.calls kb ⟨(fold (of txt.data.toList) 20).toArray⟩ b32 W h5)
  have CO := Aside0.mk (fun W (h : Below w.heap.size w W) => of_calls pad_calls txt W (hG.below h hG.lt) ht)
  have CF := Aside0.mk (fun (W : World) => show Calls Tryd.prog 12 #[.string ⟨(of txt.data.toList).toArray⟩, .int .i64 20] W fun e w' => e = .returned (.tuple #[.string ⟨(fold (of txt.data.toList) 20).toArray⟩, .int .i64 0]) ∧ Below W.heap.size W w' from fold_calls ⟨(of txt.data.toList).toArray⟩ 20 W (by decide) (by decide) (show (of txt.data.toList).length < _ by rw [of_len]; decide))
  have HR := Aside0.mk hr
  have HB1 := Aside0.mk ((Below.refl w.heap.size w).alloc (Nat.le_refl _) (.cells (d.map bcell).toArray 23))
  have HX1 := Aside0.mk (World.alloc_heap_new w (.cells (d.map bcell).toArray 23))
  have HD := Aside0.mk hd
  have HTX := Aside0.mk htx
  have HSZ := Aside0.mk hsz
  have HRZ := Aside0.mk hrz
  clear hG hd h0 h1 h2 h3 h4 h5 hr htx hsz hrz
  go_enter Tryd.func4, Tryd.ntmps4
  go_wp2_with (first
    | (go_at_call 7; (refine (C0.out _).mono ?_); rintro e w2 ⟨rfl, hb2⟩; have HB2 := Aside0.mk (HB1.out.trans (hb2.mono HB1.out.size)); have HX2 := Aside0.mk ((hb2.block _ (Array.getElem?_eq_some_iff.1 HX1.out).1).trans HX1.out); clear hb2)
    | ((with_reducible refine gate_dst (N := 19) rfl ?_); refine wpList_load_mid rfl 23 (.tmp 4) rfl w.heap.size 0 rfl (d.map bcell) _ (range_row HX2.out) Tryd.underlying23 rfl (by rw [List.length_map, HD.out]; kernel_rfl) ?_)
    | (go_at_call 8; ((with_reducible refine (CM.out w2 HB2.out).mono ?_)); rintro e w3 ⟨rfl, hb3⟩; have HB3 := Aside0.mk (HB2.out.trans (hb3.mono HB2.out.size)); have HX3 := Aside0.mk ((hb3.block _ (Array.getElem?_eq_some_iff.1 HX2.out).1).trans HX2.out); clear hb3))
  go_loopg [9, 30] refs.length (fun g v9 v30 wx => ∃ i : Nat, i + g = refs.length ∧ v30 = .int .i64 (i : Int) ∧ v9 = .string (textTo refs i) ∧ wx = w3)
  case atStart => exact ⟨0, by omega, rfl, rfl, rfl⟩
  case round =>
    obtain ⟨i, hig, rfl, rfl, rfl⟩ := hrel
    cases gk with
    | zero =>
      obtain rfl : i = refs.length := by omega
      have d5 : decide ((refs.length : Int) < (refs.length : Int)) = false := decide_eq_false (by omega)
      have HT : Aside0 (∃ T, textTo refs refs.length = T ∧ T.size < 1000000000000) := ⟨_, rfl, HSZ.out _ (Nat.le_refl _)⟩
      obtain ⟨T, hT, hTs⟩ := HT.out
      have HTX2 := HTX.out
      rw [hT] at HTX2
      have HTX3 : Aside0 (T ++ (⟨#[58, 115, 104, 97, 50, 53, 54, 58]⟩ : ByteArray) ++ hxs ++ (⟨#[58, 47, 100, 101, 112, 111, 116, 47, 115, 116, 111, 114, 101, 47, 58]⟩ : ByteArray) ++ label = txt) := ⟨HTX2⟩
      rw [hT]
      clear HTX2 hT HT
      have hcv := conv32 wr w.heap.size d _ HD.out HX3.out
      have HOL := Aside0.mk (of_len txt.data.toList)
      have t1 : (T.size + 8 ≤ 9223372036854775807) = True := eq_true (by omega)
      have t2 : (T.size + 8 + hxs.size ≤ 9223372036854775807) = True := eq_true (by omega)
      have t3 : (T.size + 8 + hxs.size + 15 ≤ 9223372036854775807) = True := eq_true (by omega)
      have t4 : (T.size + 8 + hxs.size + 15 + label.size ≤ 9223372036854775807) = True := eq_true (by omega)
      have t5 : (13 + b32.size ≤ 9223372036854775807) = True := eq_true (by omega)
      have t6 : (13 + b32.size + 1 ≤ 9223372036854775807) = True := eq_true (by omega)
      have t7 : (13 + b32.size + 1 + label.size ≤ 9223372036854775807) = True := eq_true (by omega)
      go_wp2_with (first
        | (go_at_call 11; ((with_reducible refine (C3.out wr).mono ?_)); rintro e w6 ⟨rfl, hb6⟩; have HB6 := Aside0.mk (HB3.out.trans (hb6.mono HB3.out.size)); clear hb6 hcv)
        | (go_at_call 10; refine calls_of_args (show _ = #[Value.string txt] from by rw [← HTX3.out]) ?_; ((with_reducible refine (CO.out w6 HB6.out).mono ?_)); rintro e w10 ⟨rfl, hb10⟩; have HB10 := Aside0.mk (HB6.out.trans (hb10.mono HB6.out.size)); clear hb10)
        | ((with_reducible refine gate_store (t := 28) (p := 12) rfl ?_); refine wpList_store_row' rfl 28 (.tmp 12) (.tmp 48) rfl w10.heap.size 28 (List.replicate 32 (Value.int .u8 0)).toArray ((of txt.data.toList).map bcell).toArray rfl rfl (World.alloc_heap_new w10 _) (by rw [List.size_toArray, List.length_map, HOL.out]; exact HR28.out) (by rw [List.size_toArray, List.size_toArray, List.length_map, HOL.out]; rfl) (all_oneCell_toArray fun u hu => by obtain ⟨y, _, rfl⟩ := List.mem_map.1 hu; rfl) ?_; intro w11 hw11; have hcv11 := conv32 w11 w10.heap.size (of txt.data.toList) 28 HOL.out (by rw [hw11]; exact setRow_heap _ _ _ _ _ _ (World.alloc_heap_new w10 _)); have HB11 : Aside0 (Below w.heap.size w w11) := ⟨by rw [hw11]; exact below_setRow (HB10.out.alloc HB10.out.size _) HB10.out.size _⟩; clear hw11)
        | (go_at_call 12; ((with_reducible refine (CF.out w11).mono ?_)); rintro e w12 ⟨rfl, hb12⟩; have HB12 := Aside0.mk (HB11.out.trans (hb12.mono HB11.out.size)); clear hb12 hcv11)
        | (go_at_call 13; ((with_reducible refine (C5.out w12).mono ?_)); rintro e w13 ⟨rfl, hb13⟩; have HB13 := Aside0.mk (HB12.out.trans (hb13.mono HB12.out.size)); clear hb13))
      go_ret
      exact ⟨rfl, HB13.out⟩
    | succ k1 =>
      have d4 : decide ((i : Int) < (refs.length : Int)) = true := decide_eq_true (by omega)
      obtain ⟨bk, o, rfl, hcell⟩ := string_cells (Kd.C_below HR.out HB3.out) (by omega)
      have hi : i < refs.length := by omega
      have y1 := hcell i _ (List.getElem?_eq_getElem hi)
      have hgx : refs.getD i ⟨#[]⟩ = refs[i] := by rw [List.getD_eq_getElem?_getD, List.getElem?_eq_getElem hi]; rfl
      have hxs_ := HRZ.out i
      have hts := HSZ.out i (by omega)
      have HN : Aside0 (textTo refs (i + 1) = textTo refs i ++ (colonS ++ refs[i])) := ⟨by rw [textTo, hgx]⟩
      rw [hgx] at hxs_
      obtain ⟨x, hx⟩ : ∃ x, refs[i] = x := ⟨_, rfl⟩
      obtain ⟨tt, htt⟩ : ∃ tt, textTo refs i = tt := ⟨_, rfl⟩
      rw [hx] at y1 hxs_ HN
      rw [htt] at hts HN
      rw [htt]
      have t1 : (1 + x.size ≤ 9223372036854775807) = True := eq_true (by omega)
      have t2 : (tt.size + (1 + x.size) ≤ 9223372036854775807) = True := eq_true (by omega)
      have p1 : (0 ≤ (i : Int)) = True := eq_true (by omega)
      have p2 : ((i : Int) < (refs.length : Int)) = True := eq_true (by omega)
      have p3 : (i < refs.length) = True := eq_true hi
      clear hcell hgx hx htt hi
      go_wp2
      go_roundg k1
      case measure => omega
      case rel => exact ⟨i + 1, by omega, by go_num, by rw [HN.out]; rfl, rfl⟩
set_option maxRecDepth 100000 in
set_option maxHeartbeats 8000000 in
/-- Make says no: the law says yes. -/
theorem text_bad (w : World) (A : Option Addr) (c : Nat) (refs : List ByteArray) (d : List UInt8) (hd : d.length = 32) (label : ByteArray) (ka : Nat) (e1 : Int) (he : e1 ≠ 0)
    (h0 : depotlaw13_awake.f ka = some true) (hM : ∀ W, Below w.heap.size w W → Calls Tryd.prog 8 #[.slice A refs.length c, .agg (d.map bcell).toArray, .string label] W fun e w' => e = .returned (.tuple #[.string ⟨#[]⟩, .int .i64 e1]) ∧ Below W.heap.size W w') :
    Calls Tryd.prog 4 #[.slice A refs.length c, .agg (d.map bcell).toArray, .string label] w fun e w' => e = .returned (.bool true) ∧ Below w.heap.size w w' := by
  have C0 := Aside0.mk (fun W => depotlaw13_awake.calls ka true W h0)
  have CM := Aside0.mk hM
  have HB1 := Aside0.mk ((Below.refl w.heap.size w).alloc (Nat.le_refl _) (.cells (d.map bcell).toArray 23))
  have HX1 := Aside0.mk (World.alloc_heap_new w (.cells (d.map bcell).toArray 23))
  have HD := Aside0.mk hd
  have d1 : decide (e1 = 0) = false := decide_eq_false he
  clear hd h0 hM
  go_enter Tryd.func4, Tryd.ntmps4
  go_wp2_with (first
    | (go_at_call 7; (refine (C0.out _).mono ?_); rintro e w2 ⟨rfl, hb2⟩; have HB2 := Aside0.mk (HB1.out.trans (hb2.mono HB1.out.size)); have HX2 := Aside0.mk ((hb2.block _ (Array.getElem?_eq_some_iff.1 HX1.out).1).trans HX1.out); clear hb2)
    | ((with_reducible refine gate_dst (N := 19) rfl ?_); refine wpList_load_mid rfl 23 (.tmp 4) rfl w.heap.size 0 rfl (d.map bcell) _ (range_row HX2.out) Tryd.underlying23 rfl (by rw [List.length_map, HD.out]; kernel_rfl) ?_)
    | (go_at_call 8; ((with_reducible refine (CM.out w2 HB2.out).mono ?_)); rintro e w3 ⟨rfl, hb3⟩; have HB3 := Aside0.mk (HB2.out.trans (hb3.mono HB2.out.size)); clear hb3))
  go_ret
  exact ⟨rfl, HB3.out⟩
end Go.Proofs.YtglhbbijoeeclaaDoor.Sha
/- SpathText in plain Lean: sizes, and the text. -/
namespace Go.Proofs.YtglhbbijoeeclaaDoor.TextPure
open Go.RowKit Go.Proofs.YtglhbbijoeeclaaDoor.Q Go.Proofs.YtglhbbijoeeclaaDoor.Bytes Go.Proofs.YtglhbbijoeeclaaDoor.Sha Go.Proofs.YtglhbbijoeeclaaDoor.Refs Go.Proofs.YtglhbbijoeeclaaDoor.SpathPure Go.Proofs.YtglhbbijoeeclaaDoorW.PrintWords Go.Proofs.YtglhbbijoeeclaaDoorW.PrintLast Go.Proofs.YtglhbbijoeeclaaDoorW.PrintMore
set_option linter.unusedVariables false
set_option linter.unusedSimpArgs false
theorem label_len {l : List UInt8} (h : labelNo l = 0) : l.length ≤ 211 := by
  unfold labelNo at h
  split at h
  · cases h
  · rename_i hn
    have : ¬ 211 < l.length := fun hh => hn (Or.inr (Or.inl hh))
    omega
theorem path_small (s : ByteArray) (h : (parseB s).2.2 = 0) : s.size ≤ 300 := by
  unfold parseB at h
  split at h
  · split at h
    · split at h
      · rename_i hl
        have := label_len hl
        rw [bs_extract, List.length_take, List.length_drop, ← size_bs] at this
        omega
      · rename_i hl
        exact absurd h hl
    · rename_i hl
      exact absurd h hl
  · cases h
theorem from_all (xs : List ByteArray) : ∀ (d i : Nat), from_ xs i d = 0 → ∀ j, i ≤ j → j < i + d → okAt xs j
  | 0, i, _, j, h1, h2 => absurd h2 (by omega)
  | d + 1, i, h, j, h1, h2 => by
    unfold from_ at h
    split at h
    · rename_i ho
      by_cases hj : j = i
      · rw [hj]; exact ho
      · exact from_all xs d (i + 1) h j (by omega) (by omega)
    · cases h
theorem refs_small (xs : List ByteArray) (h : refsNo xs = 0) : xs.length ≤ 1024 ∧ ∀ k, (xs.getD k ⟨#[]⟩).size ≤ 300 := by
  unfold refsNo at h
  split at h
  · cases h
  · rename_i hl
    refine ⟨by omega, fun k => ?_⟩
    by_cases hk : k < xs.length
    · exact path_small _ (from_all xs xs.length 0 h k (Nat.zero_le _) (by omega)).1
    · rw [List.getD_eq_getElem?_getD, List.getElem?_eq_none (by omega)]
      exact Nat.zero_le _
theorem text_size (xs : List ByteArray) (h : ∀ k, (xs.getD k ⟨#[]⟩).size ≤ 300) : ∀ k, (textTo xs k).size ≤ 4 + 301 * k
  | 0 => by show 4 ≤ _; omega
  | k + 1 => by
    have ih := text_size xs h k
    have hk := h k
    rw [textTo, size_bs, bs_append, bs_append, List.length_append, List.length_append, ← size_bs, ← size_bs, ← size_bs]
    have : colonS.size = 1 := rfl
    omega
theorem text_bytes (xs : List ByteArray) : ∀ k, k ≤ xs.length → bs (textTo xs k) = bs treeS ++ Lib.joinTail [58] ((xs.map bs).take k)
  | 0, _ => by simp [textTo, Lib.joinTail]
  | k + 1, hk => by
    have ih := text_bytes xs k (by omega)
    have hl : k < xs.length := hk
    rw [Lib.joinTail_take_succ [58] (xs.map bs) k (bs xs[k]) (by rw [List.getElem?_map, List.getElem?_eq_getElem hl]; rfl), textTo, bs_append, bs_append, ih, List.getD_eq_getElem?_getD, List.getElem?_eq_getElem hl, List.append_assoc, List.append_assoc]
    rfl
theorem text_join (xs : List ByteArray) (hxs label : ByteArray) : bs (textTo xs xs.length ++ shaC ++ hxs ++ dirC ++ label) = Lib.join (([treeS] ++ xs ++ [shaS, hxs, dirS, label]).map bs) (bs colonS) := by
  have h := text_bytes xs xs.length (Nat.le_refl _)
  rw [List.take_of_length_le (by rw [List.length_map]; exact Nat.le_refl _)] at h
  rw [bs_append, bs_append, bs_append, bs_append, h]
  simp only [List.cons_append, List.nil_append, List.map_cons, List.map_append, List.map_nil]
  rw [Lib.join_cons]
  simp [Lib.joinTail]
  rfl
end Go.Proofs.YtglhbbijoeeclaaDoor.TextPure
/- radix.Hex answers (plain). -/
namespace Go.Proofs.YtglhbbijoeeclaaDoor.HexPure
open Go.RowKit Go.Proofs.YtglhbbijoeeclaaDoor.Q Go.Proofs.YtglhbbijoeeclaaDoor.Bytes Go.Proofs.YtglhbbijoeeclaaDoorW.PrintWords Go.Proofs.YtglhbbijoeeclaaDoorW.PrintLast Go.Proofs.YtglhbbijoeeclaaDoorW.PrintMore
set_option linter.unusedVariables false
set_option linter.unusedSimpArgs false
theorem and15 : ∀ n : Nat, n < 256 → 0 ≤ Go.bits .and .u8 (n : Int) 15 ∧ Go.bits .and .u8 (n : Int) 15 < 16 := by decide +kernel
theorem bt_byte (s : ByteArray) (i : Int) : ∃ n : Nat, n < 256 ∧ bt s i = (n : Int) := by
  unfold bt
  split
  · exact ⟨_, UInt8.toNat_lt _, rfl⟩
  · exact ⟨0, by decide, rfl⟩
theorem hex_l0 (a : ByteArray) (ha : a.size < 1000000) (d : Nat) : ∀ (i : Nat) (x3 : List Int), i + d = a.size → x3.length = 2 * i → ∃ r : ByteArray, r.size ≤ 2 * a.size ∧ radix_Hex.l0 (d + 1) a x3 (a.size : Int) (i : Int) = some r := by
  induction d with
  | zero =>
    intro i x3 hi hx
    refine ⟨strOfNums x3, by rw [strOfNums_size]; omega, ?_⟩
    rw [radix_Hex.l0, if_neg (by omega)]
  | succ d ih =>
    intro i x3 hi hx
    obtain ⟨n, hn, hb⟩ := bt_byte a (i : Int)
    obtain ⟨h1, h2⟩ := and15 n hn
    have e : wrap64 ((i : Int) + 1) = ((i + 1 : Nat) : Int) := by rw [w64 (by omega) (by omega)]; omega
    rw [radix_Hex.l0, if_pos (by omega), if_pos (by omega), if_pos (by omega), hb, if_pos (by omega), if_pos (by omega), if_pos h1, if_pos h2, Option.bind_some, if_pos (by rw [hx]; simp; omega), e]
    exact ih (i + 1) _ (by omega) (by rw [List.length_append, hx]; simp; omega)
theorem hex_some (a : ByteArray) (ha : a.size < 1000000) : ∃ r : ByteArray, r.size ≤ 2 * a.size ∧ radix_Hex.f (a.size + 1) a = some r := by
  obtain ⟨r, hr, h⟩ := hex_l0 a ha a.size 0 [] (by omega) rfl
  have e : wrap64 (2 * (a.size : Int)) = ((2 * a.size : Nat) : Int) := by rw [w64 (by omega) (by omega)]; omega
  refine ⟨r, hr, ?_⟩
  unfold radix_Hex.f
  rw [e, if_pos (Int.natCast_nonneg _), if_pos (by rw [Int.toNat_natCast]; omega)]
  exact h
end Go.Proofs.YtglhbbijoeeclaaDoor.HexPure
/- radix.Base32 answers at 20 bytes (plain). -/
namespace Go.Proofs.YtglhbbijoeeclaaDoor.B32Pure
open Go.RowKit Go.Proofs.YtglhbbijoeeclaaDoor.Q Go.Proofs.YtglhbbijoeeclaaDoor.Bytes Go.Proofs.YtglhbbijoeeclaaDoorW.PrintWords Go.Proofs.YtglhbbijoeeclaaDoorW.PrintLast Go.Proofs.YtglhbbijoeeclaaDoorW.PrintMore
set_option linter.unusedVariables false
set_option linter.unusedSimpArgs false
theorem and31 (x : Int) : 0 ≤ Go.bits .and .u64 x 31 ∧ Go.bits .and .u64 x 31 < 32 := by
  have h : (BitVec.ofInt 64 x &&& BitVec.ofInt 64 31).toNat ≤ 31 := by
    rw [BitVec.toNat_and]
    exact Nat.and_le_right
  show 0 ≤ IntKind.u64.wrap (((BitVec.ofInt 64 x &&& BitVec.ofInt 64 31).toNat : Nat) : Int) ∧ IntKind.u64.wrap (((BitVec.ofInt 64 x &&& BitVec.ofInt 64 31).toNat : Nat) : Int) < 32
  rw [IntKind.wrap_u64]
  omega
theorem l1_more (a : ByteArray) (k : Nat) (x4 : List Int) (x5 : Int) (h p : Nat) (i : Int) (h5 : 5 ≤ h) (h6 : h < 64) (p1 : 1 ≤ p) (p2 : p ≤ 32) (hl : x4.length = 32) :
    ∃ x4' : List Int, x4'.length = 32 ∧ radix_Base32.l1 (k + 1) a x4 x5 (h : Int) (p : Int) 20 i = radix_Base32.l1 k a x4' (x5 / 32) ((h - 5 : Nat) : Int) ((p - 1 : Nat) : Int) 20 i := by
  obtain ⟨h1, h2⟩ := and31 x5
  have e1 : wrap64 ((p : Int) - 1) = ((p - 1 : Nat) : Int) := by rw [w64 (by omega) (by omega)]; omega
  have e2 : IntKind.u64.wrap ((h : Int) - 5) = ((h - 5 : Nat) : Int) := by rw [IntKind.wrap_u64]; omega
  refine ⟨_, ?_, by rw [radix_Base32.l1, if_pos (by omega), if_pos h1, if_pos h2, e1, if_pos (Int.natCast_nonneg _), if_pos (by omega), e2]⟩
  rw [List.length_set]; exact hl
theorem l1_end (a : ByteArray) (k : Nat) (x4 : List Int) (x5 : Int) (h p i : Nat) (h5 : h < 5) (hi : i < 1000) :
    radix_Base32.l1 (k + 1) a x4 x5 (h : Int) (p : Int) 20 (i : Int) = radix_Base32.l0 k a x4 x5 (h : Int) (p : Int) 20 ((i + 1 : Nat) : Int) := by
  have e : wrap64 ((i : Int) + 1) = ((i + 1 : Nat) : Int) := by rw [w64 (by omega) (by omega)]; omega
  rw [radix_Base32.l1, if_neg (by omega), e]
theorem b32_l0 (a : ByteArray) (ha : a.size = 20) (d : Nat) : ∀ (i : Nat) (x4 : List Int) (x5 : Int), i + d = 20 → x4.length = 32 → ∃ (k : Nat) (r : ByteArray), r.size = 32 ∧ radix_Base32.l0 k a x4 x5 ((8 * i % 5 : Nat) : Int) ((32 - 8 * i / 5 : Nat) : Int) 20 (i : Int) = some r := by
  induction d with
  | zero =>
    intro i x4 x5 hi hl
    obtain rfl : i = 20 := by omega
    refine ⟨1, strOfNums x4, by rw [strOfNums_size]; exact hl, ?_⟩
    rw [radix_Base32.l0, if_neg (by decide), if_neg (by decide)]
  | succ d ih =>
    intro i x4 x5 hi hl
    have e8 : IntKind.u64.wrap (((8 * i % 5 : Nat) : Int) + 8) = ((8 * i % 5 + 8 : Nat) : Int) := by rw [IntKind.wrap_u64]; omega
    have hstep : ∀ k, radix_Base32.l0 (k + 1) a x4 x5 ((8 * i % 5 : Nat) : Int) ((32 - 8 * i / 5 : Nat) : Int) 20 (i : Int) = radix_Base32.l1 k a x4 (Go.bits .or .u64 x5 (shl .u64 (IntKind.u64.wrap (bt a (i : Int))) ((8 * i % 5 : Nat) : Int))) ((8 * i % 5 + 8 : Nat) : Int) ((32 - 8 * i / 5 : Nat) : Int) 20 (i : Int) := fun k => by
      rw [radix_Base32.l0, if_pos (by omega), if_pos (by omega), if_pos (by rw [ha]; omega), if_pos (Int.natCast_nonneg _), e8]
    generalize Go.bits .or .u64 x5 (shl .u64 (IntKind.u64.wrap (bt a (i : Int))) ((8 * i % 5 : Nat) : Int)) = y5 at hstep
    by_cases h2 : 8 * i % 5 + 8 - 5 < 5
    · obtain ⟨x4', hl', h'⟩ : ∃ x4' : List Int, x4'.length = 32 ∧ ∀ k, radix_Base32.l1 (k + 1) a x4 y5 ((8 * i % 5 + 8 : Nat) : Int) ((32 - 8 * i / 5 : Nat) : Int) 20 (i : Int) = radix_Base32.l1 k a x4' (y5 / 32) ((8 * i % 5 + 8 - 5 : Nat) : Int) ((32 - 8 * i / 5 - 1 : Nat) : Int) 20 (i : Int) := by
        obtain ⟨h31, h32⟩ := and31 y5
        have e1 : wrap64 (((32 - 8 * i / 5 : Nat) : Int) - 1) = ((32 - 8 * i / 5 - 1 : Nat) : Int) := by rw [w64 (by omega) (by omega)]; omega
        have e2 : IntKind.u64.wrap (((8 * i % 5 + 8 : Nat) : Int) - 5) = ((8 * i % 5 + 8 - 5 : Nat) : Int) := by rw [IntKind.wrap_u64]; omega
        refine ⟨_, ?_, fun k => by rw [radix_Base32.l1, if_pos (by omega), if_pos h31, if_pos h32, e1, if_pos (Int.natCast_nonneg _), if_pos (by omega), e2]⟩
        rw [List.length_set]; exact hl
      obtain ⟨k, r, hr, h⟩ := ih (i + 1) x4' (y5 / 32) (by omega) hl'
      refine ⟨k + 1 + 1 + 1, r, hr, ?_⟩
      rw [hstep, h', l1_end a k x4' _ _ _ i h2 (by omega)]
      rw [show 8 * i % 5 + 8 - 5 = 8 * (i + 1) % 5 from by omega, show 32 - 8 * i / 5 - 1 = 32 - 8 * (i + 1) / 5 from by omega]
      exact h
    · have hx : ∃ (k : Nat) (r : ByteArray), r.size = 32 ∧ radix_Base32.l1 k a x4 y5 ((8 * i % 5 + 8 : Nat) : Int) ((32 - 8 * i / 5 : Nat) : Int) 20 (i : Int) = some r := by
        obtain ⟨z4, hz, hz2⟩ : ∃ z4 : List Int, z4.length = 32 ∧ ∀ k, radix_Base32.l1 (k + 1) a x4 y5 ((8 * i % 5 + 8 : Nat) : Int) ((32 - 8 * i / 5 : Nat) : Int) 20 (i : Int) = radix_Base32.l1 k a z4 (y5 / 32) ((8 * i % 5 + 8 - 5 : Nat) : Int) ((32 - 8 * i / 5 - 1 : Nat) : Int) 20 (i : Int) := by
          obtain ⟨h31, h32⟩ := and31 y5
          have e1 : wrap64 (((32 - 8 * i / 5 : Nat) : Int) - 1) = ((32 - 8 * i / 5 - 1 : Nat) : Int) := by rw [w64 (by omega) (by omega)]; omega
          have e2 : IntKind.u64.wrap (((8 * i % 5 + 8 : Nat) : Int) - 5) = ((8 * i % 5 + 8 - 5 : Nat) : Int) := by rw [IntKind.wrap_u64]; omega
          refine ⟨_, ?_, fun k => by rw [radix_Base32.l1, if_pos (by omega), if_pos h31, if_pos h32, e1, if_pos (Int.natCast_nonneg _), if_pos (by omega), e2]⟩
          rw [List.length_set]; exact hl
        obtain ⟨v4, hv, hv2⟩ : ∃ v4 : List Int, v4.length = 32 ∧ ∀ k, radix_Base32.l1 (k + 1) a z4 (y5 / 32) ((8 * i % 5 + 8 - 5 : Nat) : Int) ((32 - 8 * i / 5 - 1 : Nat) : Int) 20 (i : Int) = radix_Base32.l1 k a v4 (y5 / 32 / 32) ((8 * i % 5 + 8 - 5 - 5 : Nat) : Int) ((32 - 8 * i / 5 - 1 - 1 : Nat) : Int) 20 (i : Int) := by
          obtain ⟨h31, h32⟩ := and31 (y5 / 32)
          have e1 : wrap64 (((32 - 8 * i / 5 - 1 : Nat) : Int) - 1) = ((32 - 8 * i / 5 - 1 - 1 : Nat) : Int) := by rw [w64 (by omega) (by omega)]; omega
          have e2 : IntKind.u64.wrap (((8 * i % 5 + 8 - 5 : Nat) : Int) - 5) = ((8 * i % 5 + 8 - 5 - 5 : Nat) : Int) := by rw [IntKind.wrap_u64]; omega
          refine ⟨_, ?_, fun k => by rw [radix_Base32.l1, if_pos (by omega), if_pos h31, if_pos h32, e1, if_pos (Int.natCast_nonneg _), if_pos (by omega), e2]⟩
          rw [List.length_set]; exact hz
        obtain ⟨k, r, hr, h⟩ := ih (i + 1) v4 (y5 / 32 / 32) (by omega) hv
        refine ⟨k + 1 + 1 + 1, r, hr, ?_⟩
        rw [hz2, hv2, l1_end a k v4 _ _ _ i (by omega) (by omega)]
        rw [show 8 * i % 5 + 8 - 5 - 5 = 8 * (i + 1) % 5 from by omega, show 32 - 8 * i / 5 - 1 - 1 = 32 - 8 * (i + 1) / 5 from by omega]
        exact h
      obtain ⟨k, r, hr, h⟩ := hx
      exact ⟨k + 1, r, hr, by rw [hstep]; exact h⟩
theorem b32_some (a : ByteArray) (ha : a.size = 20) : ∃ (k : Nat) (r : ByteArray), r.size = 32 ∧ radix_Base32.f k a = some r := by
  obtain ⟨k, r, hr, h⟩ := b32_l0 a ha 20 0 (List.replicate 32 0) 0 rfl rfl
  refine ⟨k, r, hr, ?_⟩
  unfold radix_Base32.f
  have e : wrap64 (Int.tdiv (wrap64 ((wrap64 (8 * ((20 : Nat) : Int))) + 4)) 5) = 32 := by decide +kernel
  rw [ha, e, if_pos (by decide), if_pos (by decide)]
  exact h
end Go.Proofs.YtglhbbijoeeclaaDoor.B32Pure
/- depotlaw13.SpathText answers true. -/
namespace Go.Proofs.YtglhbbijoeeclaaDoor.TextTrue
open Go.RowKit Go.Proofs.YtglhbbijoeeclaaDoor.Q Go.Proofs.YtglhbbijoeeclaaDoor.Bytes Go.Proofs.YtglhbbijoeeclaaDoor.Sha Go.Proofs.YtglhbbijoeeclaaDoor.Refs Go.Proofs.YtglhbbijoeeclaaDoor.SpathPure Go.Proofs.YtglhbbijoeeclaaDoor.TextPure Go.Proofs.YtglhbbijoeeclaaDoorW.PrintWords Go.Proofs.YtglhbbijoeeclaaDoorW.PrintLast Go.Proofs.YtglhbbijoeeclaaDoorW.PrintMore
set_option linter.unusedVariables false
set_option linter.unusedSimpArgs false
theorem fold_size (l : List UInt8) : (⟨(fold l 20).toArray⟩ : ByteArray).size = 20 := by
  show (fold l 20).toArray.size = 20
  rw [List.size_toArray, fold, List.length_take, foldTo_len]
  rfl
set_option maxHeartbeats 1000000 in
theorem text_true (w : World) (hG : Glob w) (A : Option Addr) (c : Nat) (refs : List ByteArray) (d : List UInt8) (hd : d.length = 32) (label : ByteArray) (hr : Kd.C Kd.string w A refs.length refs) (hc : refs.length ≤ c) (hsz : ∀ x ∈ refs, x.size ≤ 140737488351232) :
    Calls Tryd.prog 4 #[.slice A refs.length c, .agg (d.map bcell).toArray, .string label] w fun e w' => e = .returned (.bool true) ∧ Below w.heap.size w w' := by
  obtain ⟨ka, hka⟩ := awake
  have h0 := hka ka (Nat.le_refl _)
  have h1 : spath_CheckLabel.f label = some (labelNo (bs label)) := rfl
  by_cases e1 : labelNo (bs label) = 0
  · rw [e1] at h1
    obtain ⟨kr, hkr⟩ := prog_refs refs hsz
    have h2 := hkr kr (Nat.le_refl _)
    by_cases e2 : refsNo refs = 0
    · rw [e2] at h2
      obtain ⟨hlen, hsm⟩ := refs_small refs e2
      have hll := label_len e1
      rw [← size_bs] at hll
      have hds : (⟨d.toArray⟩ : ByteArray).size = 32 := by show d.length = 32; exact hd
      obtain ⟨hxs, hxl, h3⟩ := HexPure.hex_some ⟨d.toArray⟩ (by rw [hds]; decide)
      rw [hds] at hxl
      have hts := text_size refs hsm
      have hj := text_join refs hxs label
      have hn := hts refs.length
      have hsize : (textTo refs refs.length ++ shaC ++ hxs ++ dirC ++ label).size ≤ 1000000 := by
        rw [size_bs, bs_append, bs_append, bs_append, bs_append, List.length_append, List.length_append, List.length_append, List.length_append, ← size_bs, ← size_bs, ← size_bs, ← size_bs, ← size_bs]
        have q1 : shaC.size = 8 := rfl
        have q2 : dirC.size = 15 := rfl
        omega
      have h4 : strings_Join.f ([treeS] ++ refs ++ [shaS, hxs, dirS, label]) colonS = some (textTo refs refs.length ++ shaC ++ hxs ++ dirC ++ label) := by
        unfold strings_Join.f
        rw [← hj, if_pos ⟨by simp; omega, by rw [← size_bs]; omega⟩]
        exact congrArg some (bs_inj (bs_mk _))
      generalize hgt : textTo refs refs.length ++ shaC ++ hxs ++ dirC ++ label = txt at h4 hsize
      obtain ⟨kb, b32, hbl, h5⟩ := B32Pure.b32_some ⟨(fold (of txt.data.toList) 20).toArray⟩ (fold_size (of txt.data.toList))
      exact text_good w hG A c refs d hd label hxs txt b32 ka kr _ kb hr hc hlen h0 h1 h2 h3 h4 (by omega) h5 (by omega) (by omega) (by omega) (fun k hk => by have := hts k; omega) (fun k => by have := hsm k; omega) hgt
    · exact text_bad w A c refs d hd label ka (refsNo refs) e2 h0 (fun W hW => make_refs W A c refs d label _ kr (Kd.C_below hr hW) hc h1 h2 e2)
  · exact text_bad w A c refs d hd label ka _ e1 h0 (fun W hW => make_label W A _ c d label _ h1 e1)
end Go.Proofs.YtglhbbijoeeclaaDoor.TextTrue
/- spath.Make at any arguments: its answer hangs on them alone. -/
namespace Go.Proofs.YtglhbbijoeeclaaDoor.TextTrue
open Go.RowKit Go.Proofs.YtglhbbijoeeclaaDoor.Q Go.Proofs.YtglhbbijoeeclaaDoor.Bytes Go.Proofs.YtglhbbijoeeclaaDoor.Sha Go.Proofs.YtglhbbijoeeclaaDoor.Refs Go.Proofs.YtglhbbijoeeclaaDoor.SpathPure Go.Proofs.YtglhbbijoeeclaaDoor.TextPure Go.Proofs.YtglhbbijoeeclaaDoorW.PrintWords Go.Proofs.YtglhbbijoeeclaaDoorW.PrintLast Go.Proofs.YtglhbbijoeeclaaDoorW.PrintMore
set_option linter.unusedVariables false
set_option linter.unusedSimpArgs false
/-- Make's contract with its answer. -/
def MakeGives (refs : List ByteArray) (d : List UInt8) (label p : ByteArray) (e1 : Int) : Prop :=
  ∀ W, Glob W → ∀ (A : Option Addr) (c : Nat), Kd.C Kd.string W A refs.length refs → refs.length ≤ c →
    Calls Tryd.prog 8 #[.slice A refs.length c, .agg (d.map bcell).toArray, .string label] W fun e w' => e = .returned (.tuple #[.string p, .int .i64 e1]) ∧ Below W.heap.size W w'
/-- What Make answers where it makes a path: the text's digest, folded, in letters. -/
def MadeAs (refs : List ByteArray) (d : List UInt8) (label p : ByteArray) : Prop :=
  ∃ hxs b32 : ByteArray, (∃ kh, radix_Hex.f kh ⟨d.toArray⟩ = some hxs) ∧ hxs.size ≤ 64 ∧ (∃ kb, radix_Base32.f kb ⟨(fold (of (textTo refs refs.length ++ shaC ++ hxs ++ dirC ++ label).data.toList) 20).toArray⟩ = some b32) ∧ b32.size = 32 ∧ p = dirS ++ b32 ++ dashS ++ label
set_option maxHeartbeats 1000000 in
theorem make_all (refs : List ByteArray) (d : List UInt8) (hd : d.length = 32) (label : ByteArray) (hsz : ∀ x ∈ refs, x.size ≤ 140737488351232) :
    ∃ p e1, MakeGives refs d label p e1 ∧ ((e1 ≠ 0 ∧ p = ⟨#[]⟩ ∧ (labelNo (bs label) = e1 ∨ labelNo (bs label) = 0 ∧ refsNo refs = e1)) ∨ (e1 = 0 ∧ labelNo (bs label) = 0 ∧ refsNo refs = 0 ∧ MadeAs refs d label p)) := by
  have h1 : spath_CheckLabel.f label = some (labelNo (bs label)) := rfl
  by_cases e1 : labelNo (bs label) = 0
  · rw [e1] at h1
    obtain ⟨kr, hkr⟩ := prog_refs refs hsz
    have h2 := hkr kr (Nat.le_refl _)
    by_cases e2 : refsNo refs = 0
    · rw [e2] at h2
      obtain ⟨hlen, hsm⟩ := refs_small refs e2
      have hll := label_len e1
      rw [← size_bs] at hll
      have hds : (⟨d.toArray⟩ : ByteArray).size = 32 := by show d.length = 32; exact hd
      obtain ⟨hxs, hxl, h3⟩ := HexPure.hex_some ⟨d.toArray⟩ (by rw [hds]; decide)
      rw [hds] at hxl
      have hts := text_size refs hsm
      have hj := text_join refs hxs label
      have hn := hts refs.length
      have hsize : (textTo refs refs.length ++ shaC ++ hxs ++ dirC ++ label).size ≤ 1000000 := by
        rw [size_bs, bs_append, bs_append, bs_append, bs_append, List.length_append, List.length_append, List.length_append, List.length_append, ← size_bs, ← size_bs, ← size_bs, ← size_bs, ← size_bs]
        have q1 : shaC.size = 8 := rfl
        have q2 : dirC.size = 15 := rfl
        omega
      have h4 : strings_Join.f ([treeS] ++ refs ++ [shaS, hxs, dirS, label]) colonS = some (textTo refs refs.length ++ shaC ++ hxs ++ dirC ++ label) := by
        unfold strings_Join.f
        rw [← hj, if_pos ⟨by simp; omega, by rw [← size_bs]; omega⟩]
        exact congrArg some (bs_inj (bs_mk _))
      have hto : ∃ txt, textTo refs refs.length ++ shaC ++ hxs ++ dirC ++ label = txt := ⟨_, rfl⟩
      obtain ⟨txt, hgt⟩ := hto
      obtain ⟨kb, b32, hbl, h5⟩ := B32Pure.b32_some ⟨(fold (of (textTo refs refs.length ++ shaC ++ hxs ++ dirC ++ label).data.toList) 20).toArray⟩ (fold_size (of _))
      refine ⟨dirS ++ b32 ++ dashS ++ label, 0, ?_, .inr ⟨rfl, e1, e2, hxs, b32, ⟨_, h3⟩, by omega, ⟨kb, h5⟩, by omega, rfl⟩⟩
      intro W hG A c hr hc
      rw [hgt] at h4 h5 hsize
      exact make_good pad_calls W hG A c refs d hd label hxs txt b32 kr _ kb hr hc hlen h1 h2 h3 h4 (by omega) h5 (by omega) (by omega)
    · exact ⟨⟨#[]⟩, refsNo refs, fun W _ A c hr hc => make_refs W A c refs d label _ kr hr hc h1 h2 e2, .inl ⟨e2, rfl, .inr ⟨e1, rfl⟩⟩⟩
  · exact ⟨⟨#[]⟩, labelNo (bs label), fun W _ A c hr hc => make_label W A _ c d label _ h1 e1, .inl ⟨e1, rfl, .inl rfl⟩⟩
end Go.Proofs.YtglhbbijoeeclaaDoor.TextTrue
/- depotlaw13.SpathKeeps, walked by hand. -/
namespace Go.Proofs.YtglhbbijoeeclaaDoor.Sha
open Go.Proofs.YtglhbbijoeeclaaDoor.OrdersBut Go.RowKit Go.Proofs.YtglhbbijoeeclaaDoor.Q Go.Proofs.YtglhbbijoeeclaaDoorW.PrintWords Go.Proofs.YtglhbbijoeeclaaDoorW.PrintLast Go.Proofs.YtglhbbijoeeclaaDoorW.PrintMore Go.Proofs.YtglhbbijoeeclaaDoor.Bytes Go.Proofs.YtglhbbijoeeclaaDoor.TextTrue
set_option linter.unusedVariables false
set_option linter.unusedSimpArgs false

/-- The row: the strings; j gaps; the rest as it was made. -/
def fill8 (l : List ByteArray) (j : Nat) : List ByteArray := l ++ (List.replicate j (⟨#[103, 97, 112]⟩ : ByteArray) ++ List.replicate (8 - j) (⟨#[]⟩ : ByteArray))
theorem fill8_len (l : List ByteArray) (j : Nat) (h : j ≤ 8) : (fill8 l j).length = l.length + 8 := by simp [fill8]; omega
theorem fill8_zero (l : List ByteArray) : l ++ (List.replicate (l.length + 8) (⟨#[]⟩ : ByteArray)).drop l.length = fill8 l 0 := by simp [fill8]
theorem fill8_set (l : List ByteArray) (j : Nat) (h : j < 8) : (fill8 l j).set (l.length + j) (⟨#[103, 97, 112]⟩ : ByteArray) = fill8 l (j + 1) := by
  unfold fill8
  rw [List.set_append_right _ _ (by omega), Nat.add_sub_cancel_left]
  congr 1
  match j, h with
  | 0, _ => rfl
  | 1, _ => rfl
  | 2, _ => rfl
  | 3, _ => rfl
  | 4, _ => rfl
  | 5, _ => rfl
  | 6, _ => rfl
  | 7, _ => rfl
theorem fill8_take (l : List ByteArray) (j : Nat) : (fill8 l j).take l.length = l := by simp [fill8]
theorem fill8_low (l : List ByteArray) (i : Nat) (h : i < l.length) : (fill8 l 8)[i]? = some l[i] := by
  unfold fill8
  rw [List.getElem?_append_left h, List.getElem?_eq_getElem h]
theorem fill8_high (l : List ByteArray) (i : Nat) (h : l.length ≤ i) (h2 : i < l.length + 8) : (fill8 l 8)[i]? = some (⟨#[103, 97, 112]⟩ : ByteArray) := by
  unfold fill8
  rw [List.getElem?_append_right h, List.getElem?_append_left (by simp; omega), List.getElem?_replicate, if_pos (by omega)]
set_option maxRecDepth 100000 in
set_option maxHeartbeats 8000000 in
theorem sp_keeps (w : World) (hG : Glob w) (A0 : Option Addr) (c0 : Nat) (l0 : List ByteArray) (d : List UInt8) (hd : d.length = 32) (hr0 : Kd.C Kd.string w A0 l0.length l0) (hc0 : l0.length ≤ c0) (hl : l0.length ≤ 8796093021952)
    (ka kr : Nat) (ha : depotlaw13_awake.f ka = some true) (p : ByteArray) (e1 sv : Int) (hM : MakeGives l0 d ⟨#[97]⟩ p e1) (hcr : spath_CheckRefs.f kr l0 = some sv) :
    Calls Tryd.prog 5 #[.slice A0 l0.length c0, .agg (d.map bcell).toArray] w fun e w' => e = .returned (.bool true) ∧ Below w.heap.size w w' := by
  have C0 := Aside0.mk (fun W => depotlaw13_awake.calls ka true W ha)
  have HB1 := Aside0.mk ((Below.refl w.heap.size w).alloc (Nat.le_refl _) (.cells (d.map bcell).toArray 23))
  have HX1 := Aside0.mk (World.alloc_heap_new w (.cells (d.map bcell).toArray 23))
  have HR0 := Aside0.mk hr0
  have HD := Aside0.mk hd
  have HC0 := Aside0.mk hc0
  obtain ⟨nn, hnn⟩ : ∃ nn, l0.length = nn := ⟨_, rfl⟩
  obtain ⟨NN, hNN⟩ : ∃ NN : Nat, nn + 8 = NN := ⟨_, rfl⟩
  have hNI : (nn : Int) + 8 = (NN : Int) := by omega
  have HN := Aside0.mk hnn
  have HJC := Aside0.mk (show ∀ (W : World) (gq cq : Nat), Below w.heap.size w W → SQ W gq cq (fill8 l0 8) → Calls Tryd.prog 8 #[.slice (some ⟨gq, 0, none⟩) nn cq, .agg (d.map bcell).toArray, .string (⟨#[97]⟩ : ByteArray)] W fun e w' => e = .returned (.tuple #[.string p, .int .i64 e1]) ∧ Below W.heap.size W w' from fun W gq cq hb h => by
    have h1 := h.reads l0.length (by rw [fill8_len _ _ (Nat.le_refl _)]; omega)
    rw [fill8_take] at h1
    have h2 := h.len
    rw [fill8_len _ _ (Nat.le_refl _)] at h2
    have := hM W (hG.below hb hG.lt) _ cq h1 (by omega)
    rwa [hnn] at this)
  have HSC := Aside0.mk (show ∀ (W : World) (gq cq : Nat), SQ W gq cq (fill8 l0 8) → Calls Tryd.prog 14 #[.slice (some ⟨gq, 0, none⟩) nn cq] W fun e w' => e = .returned (.int .i64 sv) ∧ Below W.heap.size W w' from fun W gq cq h => by
    have h1 := h.reads l0.length (by rw [fill8_len _ _ (Nat.le_refl _)]; omega)
    rw [fill8_take] at h1
    have h2 := h.len
    rw [fill8_len _ _ (Nat.le_refl _)] at h2
    have := spath_CheckRefs.calls kr _ cq l0 sv W h1 (by omega) hcr
    rwa [hnn] at this)
  have HJ2 := Aside0.mk (show ∀ (W : World), Below w.heap.size w W → Calls Tryd.prog 8 #[.slice A0 nn c0, .agg (d.map bcell).toArray, .string (⟨#[97]⟩ : ByteArray)] W fun e w' => e = .returned (.tuple #[.string p, .int .i64 e1]) ∧ Below W.heap.size W w' from fun W hb => by
    have := hM W (hG.below hb hG.lt) A0 c0 (Kd.C_below hr0 hb) hc0
    rwa [hnn] at this)
  clear hG hd hr0 hc0 ha hM hcr
  rw [hnn]
  rw [hnn] at hl
  go_enter Tryd.func5, Tryd.ntmps5
  go_wp2_with (first
    | (go_at_call 7; (refine (C0.out _).mono ?_); rintro e w2 ⟨rfl, hb2⟩; have HB2 := Aside0.mk (HB1.out.trans (hb2.mono HB1.out.size)); have HX2 := Aside0.mk ((hb2.block _ (Array.getElem?_eq_some_iff.1 HX1.out).1).trans HX1.out); clear hb2)
    | ((with_reducible refine gate_dst (N := 18) rfl ?_); refine make_sq (w0 := w) w.heap.size rfl (N := 18) rfl 22 (.tmp 17) (.tmp 17) rfl NN rfl rfl Tryd.underlying22 infoS (by omega) (by omega) HB2.out HB2.out.size ?_; intro gq cq w3 hq3 hlo3 hb3 hg3 hn3; have HQ3 := Aside0.mk hq3; have HLO := Aside0.mk hlo3; have HB3 := Aside0.mk hb3; have HNE : Aside0 (w.heap.size < gq) := ⟨Nat.lt_of_lt_of_le (Array.getElem?_eq_some_iff.1 HX2.out).1 hn3⟩; have HX3 := Aside0.mk ((hg3.block _ (Array.getElem?_eq_some_iff.1 HX2.out).1 (by intro e; cases e)).trans HX2.out); clear hq3 hlo3 hb3 hg3 hn3)
    | ((with_reducible refine gate_builtin (b := .copy) (xs := #[.tmp 19, .tmp 20]) rfl ?_); refine copy_sq (w0 := w) w.heap.size rfl (.tmp 19) (.tmp 20) 22 22 rfl gq NN cq nn c0 A0 (List.replicate NN (⟨#[]⟩ : ByteArray)) l0 rfl rfl Tryd.underlying22 (by kernel_rfl) HQ3.out (List.length_replicate ..) (Kd.C_below (by rw [← HN.out]; exact HR0.out) HB3.out) (by omega) HLO.out HB3.out ?_; intro w4 hq4 hb4 hg4; have HQ4 := Aside0.mk hq4; have HB4 := Aside0.mk hb4; have HX4 := Aside0.mk ((hg4.block _ (Array.getElem?_eq_some_iff.1 HX3.out).1 (by intro e; injection e with e; have := HNE.out; omega)).trans HX3.out); clear hq4 hb4 hg4))
  have HF0 : SQ w4 gq cq (fill8 l0 0) := by
    have h := HQ4.out
    rw [← hNN, ← HN.out, fill8_zero] at h
    exact h
  have HFA := Aside0.mk HF0
  clear HQ3 HQ4 HB2 HB3 HF0 HX2 HX3
  have hll := HN.out
  go_loopg [6] 8 (fun g v6 wx => ∃ j : Nat, j + g = 8 ∧ v6 = .int .i64 ((nn + j : Nat) : Int) ∧ Aside0 (SQ wx gq cq (fill8 l0 j)) ∧ Aside0 (Below w.heap.size w wx) ∧ Aside0 (wx.heap[w.heap.size]? = some (.cells (d.map bcell).toArray 23 (0, 0))))
  case atStart => exact ⟨0, by omega, by rw [Nat.add_zero], HFA, HB4, HX4⟩
  case round =>
    obtain ⟨j, hjg, rfl, HQ, HB, HX⟩ := hrel
    cases gk with
    | zero =>
      obtain rfl : j = 8 := by omega
      have d1 : decide (((nn + 8 : Nat) : Int) < (NN : Int)) = false := decide_eq_false (by omega)
      have d2 : ((nn : Int) ≤ (NN : Int)) = True := eq_true (by omega)
      have HQW := Aside0.mk HQ.out
      have hcl := HQ.out.len
      rw [fill8_len _ _ (Nat.le_refl _), HN.out] at hcl
      have d3 : ((nn : Int) ≤ (cq : Int)) = True := eq_true (by omega)
      have d4 : (nn ≤ cq) = True := eq_true (by omega)
      go_wp2
      have HBD := Aside0.mk (below_drew HB.out)
      have HXD : Aside0 (wr.drew.heap[w.heap.size]? = some (.cells (d.map bcell).toArray 23 (0, 0))) := ⟨HX.out⟩
      have HQD := Aside0.mk (HQW.out.below (below_drew (Below.refl _ _)))
      have HELD := Aside0.mk (range_row HXD.out)
      have HCALL := Aside0.mk (HJC.out wr.drew gq cq HBD.out HQD.out)
      refine wp_region_but 5 (fun W => W.rangeAt w.heap.size 0 (d.map bcell)) (by kernel_rfl) ?_
      generalize wr.drew = wd at HBD HXD HQD HELD HCALL ⊢
      refine wpAnyB_take (i := 0) rfl (by kernel_rfl) (by kernel_rfl) (by kernel_rfl) (by decide) (fun _ _ _ h => h) (Or.inl ⟨by kernel_rfl, fun w _ => by go_simp <;> with_reducible rfl⟩) (fun _ => HELD.out) ?_
      try simp only [Act.put, List.setIfInBounds_toArray, List.set_cons_zero, List.set_cons_succ]
      refine wpAnyB_take (i := 1) rfl (by kernel_rfl) (by kernel_rfl) (by kernel_rfl) (by decide) (fun _ _ _ h => h) (Or.inl ⟨by kernel_rfl, fun w _ => by go_simp <;> with_reducible rfl⟩) (fun _ => HELD.out) ?_
      try simp only [Act.put, List.setIfInBounds_toArray, List.set_cons_zero, List.set_cons_succ]
      refine wpAnyB_take (i := 2) rfl (by kernel_rfl) (by kernel_rfl) (by kernel_rfl) (by decide) (fun _ _ _ h => h) (Or.inl ⟨by kernel_rfl, fun w _ => by go_simp <;> with_reducible rfl⟩) (fun _ => HELD.out) ?_
      try simp only [Act.put, List.setIfInBounds_toArray, List.set_cons_zero, List.set_cons_succ]
      refine wpAnyB_take (i := 3) rfl (by kernel_rfl) (by kernel_rfl) (by kernel_rfl) (by decide) (fun _ _ _ h => h) (Or.inl ⟨by kernel_rfl, fun w _ => by go_simp <;> with_reducible rfl⟩) (fun _ => HELD.out) ?_
      try simp only [Act.put, List.setIfInBounds_toArray, List.set_cons_zero, List.set_cons_succ]
      refine wpAnyB_load (i := 4) rfl (by kernel_rfl) (by kernel_rfl) (by kernel_rfl) (by decide) (by kernel_rfl) (by kernel_rfl) (fun _ _ _ h => h) (yieldsIf_load_mid (by kernel_rfl) 23 (.tmp 3) rfl w.heap.size 0 rfl (d.map bcell) _ (fun w h => h) Tryd.underlying23 rfl (by rw [List.length_map, HD.out]; kernel_rfl)) HELD.out ?_
      try simp only [Act.put, List.setIfInBounds_toArray, List.set_cons_zero, List.set_cons_succ]
      refine wpAnyB_one (i := 5) rfl (by kernel_rfl) (fun K9 hK => ?_)
      rw [if_pos (by kernel_rfl)]
      go_simp
      with_reducible refine HCALL.out.mono ?_
      rintro e w5 ⟨rfl, hb5⟩
      have HB5 := Aside0.mk (HBD.out.trans (hb5.mono HBD.out.size))
      have HQ5 := Aside0.mk (HQD.out.below hb5)
      have HX5 := Aside0.mk ((hb5.block _ (Array.getElem?_eq_some_iff.1 HXD.out).1).trans HXD.out)
      refine hK _ _ (fun h => Bool.noConfusion (h.symm.trans (show _ = true by kernel_rfl))) ?_
      clear hK K9 HELD HCALL hb5
      try simp only [Act.put, List.setIfInBounds_toArray, List.set_cons_zero, List.set_cons_succ]
      refine wpAnyB_take (i := 6) rfl (by kernel_rfl) (by kernel_rfl) (by kernel_rfl) (by decide) (fun _ _ _ h => h) (Or.inl ⟨by kernel_rfl, fun w _ => by go_simp <;> with_reducible rfl⟩) (fun h => Bool.noConfusion (h.symm.trans (show _ = true by kernel_rfl))) ?_
      try simp only [Act.put, List.setIfInBounds_toArray, List.set_cons_zero, List.set_cons_succ]
      refine wpAnyB_take (i := 7) rfl (by kernel_rfl) (by kernel_rfl) (by kernel_rfl) (by decide) (fun _ _ _ h => h) (Or.inl ⟨by kernel_rfl, fun w _ => by go_simp <;> with_reducible rfl⟩) (fun h => Bool.noConfusion (h.symm.trans (show _ = true by kernel_rfl))) ?_
      try simp only [Act.put, List.setIfInBounds_toArray, List.set_cons_zero, List.set_cons_succ]
      refine wpAnyB_take (i := 8) rfl (by kernel_rfl) (by kernel_rfl) (by kernel_rfl) (by decide) (fun _ _ _ h => h) (Or.inl ⟨by kernel_rfl, fun w _ => by go_simp <;> with_reducible rfl⟩) (fun h => Bool.noConfusion (h.symm.trans (show _ = true by kernel_rfl))) ?_
      try simp only [Act.put, List.setIfInBounds_toArray, List.set_cons_zero, List.set_cons_succ]
      refine wpAnyB_take (i := 9) rfl (by kernel_rfl) (by kernel_rfl) (by kernel_rfl) (by decide) (fun _ _ _ h => h) (Or.inl ⟨by kernel_rfl, fun w _ => by go_simp <;> with_reducible rfl⟩) (fun h => Bool.noConfusion (h.symm.trans (show _ = true by kernel_rfl))) ?_
      try simp only [Act.put, List.setIfInBounds_toArray, List.set_cons_zero, List.set_cons_succ]
      refine wpAnyB_take (i := 10) rfl (by kernel_rfl) (by kernel_rfl) (by kernel_rfl) (by decide) (fun _ _ _ h => h) (Or.inl ⟨by kernel_rfl, fun w _ => by go_simp <;> with_reducible rfl⟩) (fun h => Bool.noConfusion (h.symm.trans (show _ = true by kernel_rfl))) ?_
      try simp only [Act.put, List.setIfInBounds_toArray, List.set_cons_zero, List.set_cons_succ]
      refine wpAnyB_done (by kernel_rfl) ?_ _
      clear HBD HXD HQD
      go_wp2_with (first
        | (go_at_call 14; ((with_reducible refine (HSC.out w5 gq cq HQ5.out).mono ?_)); rintro e w6 ⟨rfl, hb6⟩; have HB6 := Aside0.mk (HB5.out.trans (hb6.mono HB5.out.size)); have HQ6 := Aside0.mk (HQ5.out.below hb6); have HX6 := Aside0.mk ((hb6.block _ (Array.getElem?_eq_some_iff.1 HX5.out).1).trans HX5.out); clear hb6))
      have HN2 := Aside0.mk (Kd.C_below HR0.out HB6.out)
      clear HQ HB HB5 HQW HQ5 HX HX5
      go_loopg [49] NN (fun g v49 wx => ∃ i : Nat, i + g = NN ∧ v49 = .int .i64 (i : Int) ∧ wx = w6)
      case atStart => exact ⟨0, by omega, rfl, rfl⟩
      case round =>
        obtain ⟨i, hig, rfl, rfl⟩ := hrel
        cases gk with
        | zero =>
          obtain rfl : NN = i := by omega
          have d5 : decide (((NN : Nat) : Int) < (NN : Int)) = false := decide_eq_false (by omega)
          have c3 : (p.toList == p.toList) = true := by simp
          go_wp2_with (first
            | ((with_reducible refine gate_dst (N := 79) rfl ?_); refine wpList_load_mid rfl 23 (.tmp 3) rfl w.heap.size 0 rfl (d.map bcell) _ (range_row HX6.out) Tryd.underlying23 rfl (by rw [List.length_map, HD.out]; kernel_rfl) ?_)
            | (go_at_call 8; ((with_reducible refine (HJ2.out _ HB6.out).mono ?_)); rintro e w7 ⟨rfl, hb7⟩; have HB7 := Aside0.mk (HB6.out.trans (hb7.mono HB6.out.size)); clear hb7))
          go_ret
          exact ⟨rfl, HB7.out⟩
        | succ k2 =>
          have d5 : decide ((i : Int) < (NN : Int)) = true := decide_eq_true (by omega)
          have p5 : (0 ≤ (i : Int)) = True := eq_true (by omega)
          have q5 : ((i : Int) < (NN : Int)) = True := eq_true (by omega)
          by_cases hi : i < nn
          · have hil : i < l0.length := by omega
            have hxm := HQ6.out.cell i _ (fill8_low l0 i hil)
            have hxf := HQ6.out.fro i
            obtain ⟨bk, o, rfl, hcell⟩ := string_cells HN2.out (by omega)
            have hx0 := hcell i _ (List.getElem?_eq_getElem hil)
            clear hcell
            obtain ⟨s, hs⟩ : ∃ s, l0[i] = s := ⟨_, rfl⟩
            rw [hs] at hxm hx0
            have c1 : decide ((i : Int) < (nn : Int)) = true := decide_eq_true (by omega)
            have c2 : decide ((nn : Int) ≤ (i : Int)) = false := decide_eq_false (by omega)
            have c3 : (s.toList != s.toList) = false := by simp
            have q6 : ((i : Int) < (nn : Int)) = True := eq_true (by omega)
            go_wp2
            go_roundg k2
            case measure => omega
            case rel => exact ⟨i + 1, by omega, rfl, rfl⟩
          · have hxm := HQ6.out.cell i _ (fill8_high l0 i (by omega) (by omega))
            have c1 : decide ((i : Int) < (nn : Int)) = false := decide_eq_false (by omega)
            have c2 : decide ((nn : Int) ≤ (i : Int)) = true := decide_eq_true (by omega)
            go_wp2
            go_roundg k2
            case measure => omega
            case rel => exact ⟨i + 1, by omega, rfl, rfl⟩
    | succ k1 =>
      have d1 : decide (((nn + j : Nat) : Int) < (NN : Int)) = true := decide_eq_true (by omega)
      have p1 : (0 ≤ ((nn + j : Nat) : Int)) = True := eq_true (by omega)
      have q1 : (((nn + j : Nat) : Int) < (NN : Int)) = True := eq_true (by omega)
      have hlen := fill8_len l0 j (by omega)
      have hcell := HQ.out.cell (nn + j) ((fill8 l0 j)[nn + j]'(by omega)) (List.getElem?_eq_getElem _)
      have hfro := HQ.out.fro (nn + j)
      go_wp2
      go_roundg k1
      case measure => omega
      case rel =>
        refine ⟨j + 1, by omega, by first | rfl | (congr 1; omega), ⟨?_⟩, ⟨HB.out.setCell (p := ⟨gq, nn + j, none⟩) HLO.out _⟩, ⟨(Below.heap_setCell _ _ _ _ (show w.heap.size ≠ gq by have := HNE.out; omega)).trans HX.out⟩⟩
        have h := HQ.out.set (nn + j) (⟨#[103, 97, 112]⟩ : ByteArray)
        rw [← HN.out, fill8_set _ _ (by omega)] at h
        rw [← HN.out]
        exact h
/-- SpathKeeps answers true. -/
theorem keeps_true (w : World) (hG : Glob w) (A : Option Addr) (c : Nat) (refs : List ByteArray) (d : List UInt8) (hd : d.length = 32) (hr : Kd.C Kd.string w A refs.length refs) (hc : refs.length ≤ c) (hsz : ∀ x ∈ refs, x.size ≤ 140737488351232) (hb : refs.length ≤ 8796093021952) :
    Calls Tryd.prog 5 #[.slice A refs.length c, .agg (d.map bcell).toArray] w fun e w' => e = .returned (.bool true) ∧ Below w.heap.size w w' := by
  obtain ⟨ka, hka⟩ := SpathPure.awake
  obtain ⟨kr, hkr⟩ := Refs.prog_refs refs hsz
  obtain ⟨p, e1, hM, _⟩ := make_all refs d hd ⟨#[97]⟩ hsz
  exact sp_keeps w hG A c refs d hd hr hc hb ka kr (hka ka (Nat.le_refl _)) p e1 _ hM (hkr kr (Nat.le_refl _))
end Go.Proofs.YtglhbbijoeeclaaDoor.Sha
/- A world in which the listed variables (SHA-256's two tables) read as the row lists them: the door's own heap, the tables laid. -/
namespace Go.Proofs.YtglhbbijoeeclaaDoor.Door
open Go
set_option linter.unusedVariables false

def cellsOfData : DataW Unit → Array Value
  | .agg l => (l.map fun | .lit (.int k x) => Value.int k x | _ => undef).toArray
  | _ => #[]
/-- The two tables' numbers. -/
theorem gStart : Tryd.prog.globalNamed "depot/sha.start" = some 0 := by kernel_rfl
theorem gRounds : Tryd.prog.globalNamed "depot/sha.rounds" = some 1 := by kernel_rfl
noncomputable def W0 (os : Os) : World :=
  { World.doorLaid Tryd.prog 19 os with heap := ((World.doorLaid Tryd.prog 19 os).heap.modify 0 fun | .cells _ t f => .cells (cellsOfData Rows.laid_depot_sha_start) t f | o => o).modify 1 fun | .cells _ t f => .cells (cellsOfData Rows.laid_depot_sha_rounds) t f | o => o }
abbrev laid2 : List (String × DataW Unit) := Rows.spathTextRow.laid
theorem met (os : Os) (args : Array Value) : laidMetH Tryd.prog laid2 ((W0 os).forCall (fun _ _ => 0) ⟨#[], args, []⟩).memory :=
  laidMetH_of_parts3 (fuel := 8) (laidMet_of_run' 8 (by kernel_rfl) (by kernel_rfl)) (by kernel_rfl) (by kernel_rfl)
theorem shaped (os : Os) (args : Array Value) : ((W0 os).forCall (fun _ _ => 0) ⟨#[], args, []⟩).Shaped Tryd.prog := World.shaped_of_RefB (by kernel_rfl) (by kernel_rfl)
end Go.Proofs.YtglhbbijoeeclaaDoor.Door
/- What came in, opened by its kind: a reading of a value ys data gives the Lean value of the print's kinds, with its sizes. For rows over slices and structs. -/
set_option linter.unusedVariables false
set_option linter.unusedSimpArgs false
namespace Go.Proofs.YtglhbbijoeeclaaDoor.Opens
open Go.RowKit Go.Deep Go.Proofs.YtglhbbijoeeclaaDoorW.PrintWords

section
variable {α β : Type}
/-- A reading at type t gives a value of kind d: its cells (K), its weights (each no more than one of the datum's, or 0), its bulk, and what is good about its numbers. -/
structure Opens (P : Program) (t : TypeId) (d : Kd α) (Wt : α → List Nat) (Bk : α → Nat) (Gd : α → Prop) : Prop where
  sz : P.cellsOf t = d.sz
  out : ∀ {H : Type} {enc : TypeId × Value → H} {w : World} {base : Nat} {spare : Nat → Bool} {held : Bool} {fuel : Nat} {cs : List Value} {x : DataW H × List MemPlace},
    DataW.trod enc P w base spare held fuel t cs = some x → ∃ a, d.K w a cs ∧ (∀ n ∈ Wt a, n = 0 ∨ ∃ m ∈ x.1.weights P t, n ≤ m) ∧ Bk a ≤ Rows.uptoBulk x.1 ∧ Gd a

variable {P : Program} {t : TypeId}
theorem opens_string (ht : P.underlying t = some .string) (hs : P.cellsOf t = 1) : Opens P t Kd.string (fun s => [s.size]) (fun s => s.size + 1) (fun s => s.size ≤ maxLen) := by
  refine ⟨hs, fun {H enc w base spare held fuel cs x} h => ?_⟩
  obtain ⟨s, rfl, rfl, hw⟩ := DataW.trod_string ht h
  refine ⟨s, rfl, ?_, ?_, hw⟩
  · intro n hn
    rw [List.mem_singleton] at hn
    refine .inr ⟨s.data.toList.length, by rw [DataW.weights]; exact List.mem_singleton.2 rfl, ?_⟩
    rw [hn, Array.length_toList]
    exact Nat.le_refl _
  · rw [Rows.uptoBulk, Array.length_toList]
    exact Nat.le_refl _
theorem opens_bool (ht : P.underlying t = some .bool) (hs : P.cellsOf t = 1) : Opens P t Kd.bool (fun _ => []) (fun _ => 1) (fun _ => True) := by
  refine ⟨hs, fun {H enc w base spare held fuel cs x} h => ?_⟩
  obtain ⟨b, rfl, rfl⟩ := DataW.trod_bool ht h
  exact ⟨b, rfl, fun _ h => absurd h (by simp), by rw [Rows.uptoBulk] <;> simp, trivial⟩
theorem opens_int {k : IntKind} (ht : P.underlying t = some (.int k)) (hs : P.cellsOf t = 1) : Opens P t (Kd.int k) (fun _ => []) (fun _ => 1) (fun n => (Lit.int k n).wf = true) := by
  refine ⟨hs, fun {H enc w base spare held fuel cs x} h => ?_⟩
  obtain ⟨n, rfl, rfl, hw⟩ := DataW.trod_int ht h
  exact ⟨n, rfl, fun _ h => absurd h (by simp), by rw [Rows.uptoBulk] <;> simp, hw⟩

theorem list_of {Q : Nat → α → Prop} : ∀ (n : Nat), (∀ i, i < n → ∃ a, Q i a) → ∃ ys : List α, ys.length = n ∧ ∀ i a, ys[i]? = some a → Q i a
  | 0, _ => ⟨[], rfl, fun i a h => by simp at h⟩
  | n + 1, h => by
    obtain ⟨ys, hl, hq⟩ := list_of n (fun i hi => h i (by omega))
    obtain ⟨a, ha⟩ := h n (by omega)
    refine ⟨ys ++ [a], by simp [hl], fun i b hb => ?_⟩
    rcases Nat.lt_or_ge i n with hi | hi
    · rw [List.getElem?_append_left (by omega)] at hb
      exact hq i b hb
    · have : i < (ys ++ [a]).length := (List.getElem?_eq_some_iff.1 hb).1
      simp [hl] at this
      have e : i = n := by omega
      subst e
      rw [List.getElem?_append_right (by omega), hl, Nat.sub_self] at hb
      simp at hb
      subst hb
      exact ha
theorem sum_le_range (ys : List α) (Bk : α → Nat) (b : Nat → Nat) (h : ∀ i a, ys[i]? = some a → Bk a ≤ b i) : (ys.map Bk).sum ≤ ((List.range ys.length).map b).sum := by
  induction ys generalizing b with
  | nil => simp
  | cons a ys ih =>
    have h0 := h 0 a rfl
    have h1 := ih (fun i => b (i + 1)) (fun i a ha => h (i + 1) a (by simpa using ha))
    rw [List.length_cons, List.range_succ_eq_map, List.map_cons, List.sum_cons, List.map_cons, List.sum_cons, List.map_map]
    have e : (List.map (b ∘ Nat.succ) (List.range ys.length)) = List.map (fun i => b (i + 1)) (List.range ys.length) := rfl
    rw [e]
    omega
theorem bulkAll_sum {H : Type} (l : List (DataW H)) : Rows.uptoBulkAll l = (l.map Rows.uptoBulk).sum := by
  induction l with
  | nil => rfl
  | cons d l ih => rw [Rows.uptoBulkAll, ih, List.map_cons, List.sum_cons]
theorem weightsAll_mem {H : Type} {e : TypeId} : ∀ (l : List (DataW H)) (d : DataW H), d ∈ l → ∀ m ∈ d.weights P e, m ∈ DataW.weightsAll P e l
  | [], d, h => absurd h (by simp)
  | d' :: l, d, h => by
    intro m hm
    rw [DataW.weightsAll, List.mem_append]
    rcases List.mem_cons.1 h with rfl | h
    · exact .inl hm
    · exact .inr (weightsAll_mem l d h m hm)

theorem opens_slice {e : TypeId} {d : Kd α} {Wt : α → List Nat} {Bk : α → Nat} {Gd : α → Prop} (ht : P.underlying t = some (.slice e)) (hs : P.cellsOf t = 1) (he : Opens P e d Wt Bk Gd) :
    Opens P t (Kd.slice e d) (fun xs => (xs.length * P.bytesOf e) :: xs.flatMap Wt) (fun xs => (xs.map Bk).sum + 1) (fun xs => xs.length ≤ maxLen ∧ ∀ x ∈ xs, Gd x) := by
  refine ⟨hs, fun {H enc w base spare held fuel cs x} h => ?_⟩
  rcases open_slice ht h with ⟨rfl, rfl⟩ | ⟨a, len, cap, m, n, D, Pl, rfl, hb, hl, hm, hmm, rfl, hx⟩
  · exact ⟨[], ⟨none, 0, rfl, Nat.le_refl _, Kd.C_nil d w⟩, fun n hn => .inl (by simpa using hn), by rw [Rows.uptoBulk]; simp, by simp, by simp⟩
  · have hlm : len ≤ m := by rw [hmm]; split <;> omega
    have each : ∀ i, i < len → ∃ b : α, (∃ cs', w.cells? base (a.add (i * P.cellsOf e)) (P.cellsOf e) = some cs' ∧ d.K w b cs') ∧ (∀ q ∈ Wt b, q = 0 ∨ ∃ r ∈ (D i).weights P e, q ≤ r) ∧ Bk b ≤ Rows.uptoBulk (D i) ∧ Gd b := by
      intro i hi
      obtain ⟨cs', h1, h2⟩ := hx i (by omega)
      obtain ⟨b, hK, hw, hk, hg⟩ := he.out h2
      exact ⟨b, ⟨cs', h1, hK⟩, hw, hk, hg⟩
    obtain ⟨ys, hal, has⟩ := list_of len each
    subst hal
    refine ⟨ys, ⟨some a, cap, rfl, hl, rfl, by unfold maxLen at hm; omega, fun hp => ⟨a, rfl, fun j p hj => ?_⟩⟩, ?_, ?_, by omega, ?_⟩
    · obtain ⟨⟨cs', h1, hK⟩, _⟩ := has j p hj
      refine ⟨cs', d.K_len hK, hK, fun i u hu => ?_⟩
      have hc := World.cells?_some h1
      rw [he.sz] at hc
      obtain ⟨hc0, hc1, hc2⟩ := hc
      have hi : i < d.sz := by rw [← d.K_len hK]; exact (List.getElem?_eq_some_iff.1 hu).1
      have := hc2 i (by omega)
      rw [hu] at this
      rw [Go.Deep.add_add] at this
      exact this
    · intro q hq
      rw [List.mem_cons, List.mem_flatMap] at hq
      have hwt : (DataW.slice ((List.range ys.length).map D) ((List.range (m - ys.length)).map fun j => D (ys.length + j)) : DataW H).weights P t = (((List.range ys.length).map D).length + ((List.range (m - ys.length)).map fun j => D (ys.length + j)).length) * P.bytesOf e :: (DataW.weightsAll P e ((List.range ys.length).map D) ++ DataW.weightsAll P e ((List.range (m - ys.length)).map fun j => D (ys.length + j))) := by
        rw [DataW.weights, ht]
      show q = 0 ∨ ∃ r ∈ (DataW.slice ((List.range ys.length).map D) ((List.range (m - ys.length)).map fun j => D (ys.length + j)) : DataW H).weights P t, q ≤ r
      rw [hwt]
      rcases hq with rfl | ⟨b, hbm, hq⟩
      · refine .inr ⟨_, List.mem_cons_self, ?_⟩
        refine Nat.mul_le_mul_right _ ?_
        simp
      · obtain ⟨i, hi⟩ := List.getElem?_of_mem hbm
        have hil : i < ys.length := (List.getElem?_eq_some_iff.1 hi).1
        obtain ⟨_, hw, _⟩ := has i b hi
        rcases hw q hq with h0 | ⟨r, hr, hqr⟩
        · exact .inl h0
        · exact .inr ⟨r, List.mem_cons_of_mem _ (List.mem_append_left _ (weightsAll_mem _ (D i) (List.mem_map.2 ⟨i, List.mem_range.2 hil, rfl⟩) r hr)), hqr⟩
    · show _ ≤ Rows.uptoBulk (DataW.slice ((List.range ys.length).map D) ((List.range (m - ys.length)).map fun j => D (ys.length + j)) : DataW H)
      rw [Rows.uptoBulk, bulkAll_sum, List.map_map]
      have := sum_le_range ys Bk (fun i => Rows.uptoBulk (D i)) (fun i b hb => (has i b hb).2.2.1)
      have e2 : (List.map (Rows.uptoBulk ∘ D) (List.range ys.length)) = List.map (fun i => Rows.uptoBulk (D i)) (List.range ys.length) := rfl
      rw [e2]
      omega
    · intro b hbm
      obtain ⟨i, hi⟩ := List.getElem?_of_mem hbm
      exact (has i b hi).2.2.2

/-- Fields, from a place on. -/
structure OpensF (P : Program) (fs : List Field) (off : Nat) (d : Kd α) (Wt : α → List Nat) (Bk : α → Nat) (Gd : α → Prop) : Prop where
  out : ∀ {H : Type} {enc : TypeId × Value → H} {w : World} {base : Nat} {spare : Nat → Bool} {held : Bool} {fuel : Nat} {cs : List Value} {xs : List (DataW H × List MemPlace)},
    cs.length = off + d.sz → xs.length = fs.length → (∀ (i : Nat) (f : Field), fs[i]? = some f → DataW.trod enc P w base spare held fuel f.type ((cs.drop f.offset).take (P.cellsOf f.type)) = xs[i]?) →
    ∃ a, d.K w a (cs.drop off) ∧ (∀ n ∈ Wt a, n = 0 ∨ ∃ m ∈ DataW.weightsEach P (fs.map (·.type)) (xs.map (·.1)), n ≤ m) ∧ Bk a ≤ Rows.uptoBulkAll (xs.map (·.1)) ∧ Gd a
theorem opensF_one {f : Field} {off : Nat} {d : Kd α} {Wt : α → List Nat} {Bk : α → Nat} {Gd : α → Prop} (ho : f.offset = off) (he : Opens P f.type d Wt Bk Gd) : OpensF P [f] off d Wt Bk Gd := by
  refine ⟨fun {H enc w base spare held fuel cs xs} hc hl h => ?_⟩
  match xs, hl with
  | [x], _ =>
    have h0 := h 0 f rfl
    rw [ho, he.sz, List.take_of_length_le (by rw [List.length_drop]; omega)] at h0
    obtain ⟨a, hK, hw, hb, hg⟩ := he.out h0
    refine ⟨a, hK, fun n hn => ?_, ?_, hg⟩
    · rcases hw n hn with h | ⟨m, hm, hle⟩
      · exact .inl h
      · refine .inr ⟨m, ?_, hle⟩
        simp only [List.map_cons, List.map_nil, DataW.weightsEach, List.append_nil]
        exact hm
    · simp only [List.map_cons, List.map_nil, Rows.uptoBulkAll]
      omega
theorem opensF_cons {f : Field} {fs : List Field} {off : Nat} {d : Kd α} {d' : Kd β} {Wt : α → List Nat} {Bk : α → Nat} {Gd : α → Prop} {Wt' : β → List Nat} {Bk' : β → Nat} {Gd' : β → Prop}
    (ho : f.offset = off) (he : Opens P f.type d Wt Bk Gd) (hr : OpensF P fs (off + d.sz) d' Wt' Bk' Gd') :
    OpensF P (f :: fs) off (Kd.pair d d') (fun x => Wt x.1 ++ Wt' x.2) (fun x => Bk x.1 + Bk' x.2) (fun x => Gd x.1 ∧ Gd' x.2) := by
  refine ⟨fun {H enc w base spare held fuel cs xs} hc hl h => ?_⟩
  have hsz : (Kd.pair d d').sz = d.sz + d'.sz := rfl
  rw [hsz] at hc
  match xs, hl with
  | x :: xs, hl =>
    have h0 := h 0 f rfl
    rw [ho, he.sz] at h0
    obtain ⟨a, hK, hw, hb, hg⟩ := he.out h0
    obtain ⟨b, hK', hw', hb', hg'⟩ := hr.out (enc := enc) (w := w) (base := base) (spare := spare) (held := held) (fuel := fuel) (cs := cs) (xs := xs) (by omega) (by simpa using hl) (fun i f' hf => by simpa using h (i + 1) f' (by simpa using hf))
    refine ⟨(a, b), ⟨(cs.drop off).take d.sz, cs.drop (off + d.sz), ?_, hK, hK'⟩, fun n hn => ?_, ?_, hg, hg'⟩
    · rw [← List.drop_drop, List.take_append_drop]
    · simp only [List.map_cons, DataW.weightsEach, List.mem_append]
      rcases List.mem_append.1 hn with hn | hn
      · rcases hw n hn with h | ⟨m, hm, hle⟩
        · exact .inl h
        · exact .inr ⟨m, .inl hm, hle⟩
      · rcases hw' n hn with h | ⟨m, hm, hle⟩
        · exact .inl h
        · exact .inr ⟨m, .inr hm, hle⟩
    · simp only [List.map_cons, Rows.uptoBulkAll]
      omega
theorem opens_struct {fs : Array Field} {d : Kd α} {Wt : α → List Nat} {Bk : α → Nat} {Gd : α → Prop} (ht : P.underlying t = some (.struct fs)) (hs : P.cellsOf t = d.sz) (he : OpensF P fs.toList 0 d Wt Bk Gd) :
    Opens P t d Wt (fun a => Bk a + 1) Gd := by
  refine ⟨hs, fun {H enc w base spare held fuel cs x} h => ?_⟩
  obtain ⟨xs, n, rfl, rfl, hl, hl2, hx⟩ := DataW.trod_struct ht h
  obtain ⟨a, hK, hw, hb, hg⟩ := he.out (enc := enc) (w := w) (base := base) (spare := spare) (held := held) (fuel := n) (cs := cs) (xs := xs) (by omega) (by simpa using hl2) (fun i f hf => hx i f (by simpa using hf))
  refine ⟨a, by simpa using hK, fun n hn => ?_, ?_, hg⟩
  · rcases hw n hn with h | ⟨m, hm, hle⟩
    · exact .inl h
    · refine .inr ⟨m, ?_, hle⟩
      show m ∈ (DataW.agg (xs.map (·.1))).weights P t
      rw [DataW.weights, ht]
      exact hm
  · show _ ≤ Rows.uptoBulk (DataW.agg (xs.map (·.1)))
    rw [Rows.uptoBulk]
    omega
theorem opens_iso {d : Kd α} {Wt : α → List Nat} {Bk : α → Nat} {Gd : α → Prop} (f : β → α) (g : α → β) (hfg : ∀ a, f (g a) = a) (h : Opens P t d Wt Bk Gd) : Opens P t (Kd.iso d f) (fun b => Wt (f b)) (fun b => Bk (f b)) (fun b => Gd (f b)) := by
  refine ⟨h.sz, fun {H enc w base spare held fuel cs x} hx => ?_⟩
  obtain ⟨a, hK, hw, hb, hg⟩ := h.out hx
  refine ⟨g a, ?_, ?_, ?_, ?_⟩
  · show d.K w (f (g a)) cs
    rw [hfg]; exact hK
  · rw [hfg]; exact hw
  · rw [hfg]; exact hb
  · rw [hfg]; exact hg

/-- At an argument: its weights are within the reach. -/
theorem arg {H : Type} {enc : TypeId × Value → H} {w : World} {base : Nat} {spare : Nat → Bool} {held : Bool} {v : Value} {dd : DataW H} {ps : List MemPlace} {d : Kd α} {Wt : α → List Nat} {Bk : α → Nat} {Gd : α → Prop} (h : Opens P t d Wt Bk Gd)
    (hx : DataW.Trod enc P w base spare held t v dd ps) : ∃ a, d.K w a v.cells.toList ∧ (∀ n ∈ Wt a, n = 0 ∨ ∃ m ∈ dd.weights P t, n ≤ m) ∧ Bk a ≤ Rows.uptoBulk dd ∧ Gd a := by
  obtain ⟨fuel, hf⟩ := hx
  obtain ⟨a, h1, h2, h3, h4⟩ := h.out hf
  exact ⟨a, h1, h2, h3, h4⟩
/-- Each weight of an argument is within the reach of the form. -/
theorem reach {H : Type} {ts : List TypeId} {ds : List (DataW H)} (h : (DataW.weightsEach P ts ds).all (· ≤ reachBytes) = true) {j : Nat} {t : TypeId} {dd : DataW H} (ht : ts[j]? = some t) (hd : ds[j]? = some dd) {l : List Nat}
    (hw : ∀ n ∈ l, n = 0 ∨ ∃ m ∈ dd.weights P t, n ≤ m) : ∀ n ∈ l, n ≤ 140737488351232 := by
  intro n hn
  rcases hw n hn with h0 | ⟨m, hm, hle⟩
  · omega
  · have := DataW.weights_mem_each ht hd m hm
    rw [List.all_eq_true] at h
    have h1 := of_decide_eq_true (h m this)
    unfold reachBytes at h1
    omega
end
end Go.Proofs.YtglhbbijoeeclaaDoor.Opens
/- Arrays of numbers, opened; SHA-256's tables out of the row's condition. -/
set_option linter.unusedVariables false
set_option linter.unusedSimpArgs false
namespace Go.Proofs.YtglhbbijoeeclaaDoor.Sha
open Go Go.RowKit Go.Proofs.YtglhbbijoeeclaaDoorW.PrintWords Go.Proofs.YtglhbbijoeeclaaDoor.Bytes

section
variable {H : Type} {enc : TypeId × Value → H} {P : Program} {w : World} {base : Nat} {spare : Nat → Bool} {held : Bool} {fuel : Nat} {t : TypeId} {cs : List Value} {x : DataW H × List MemPlace}
/-- An array of whole numbers: its cells, its data. -/
theorem open_ints {k : IntKind} {n : Nat} {e : TypeId} (ht : P.underlying t = some (.array n e)) (he : P.underlying e = some (.int k)) (hc : P.cellsOf e = 1) (hct : P.cellsOf t = n)
    (h : DataW.trod enc P w base spare held fuel t cs = some x) :
    ∃ l : List Int, l.length = n ∧ cs = l.map (fun i => Value.int k i) ∧ x = (.agg (l.map fun i => .lit (.int k i)), []) ∧ ∀ i ∈ l, (Lit.int k i).wf = true := by
  obtain ⟨xs, m, rfl, rfl, hl, hx, hr⟩ := DataW.trod_array ht h
  rw [hct] at hl
  have each : ∀ i, i < n → ∃ z : Int, cs[i]? = some (.int k z) ∧ xs[i]? = some (.lit (.int k z), []) ∧ (Lit.int k z).wf = true := by
    intro i hi
    have h2 := hr i hi
    rw [hc, Nat.mul_one, List.getElem?_eq_getElem (by omega), List.drop_eq_getElem_cons (by omega), List.take_succ_cons, List.take_zero] at h2
    obtain ⟨z, h3, h4, h5⟩ := DataW.trod_int he h2
    refine ⟨z, ?_, ?_, h5⟩
    · rw [List.getElem?_eq_getElem (by omega)]
      injection h3 with h3 _
      rw [h3]
    · rw [List.getElem?_eq_getElem (by omega), h4]
  obtain ⟨l, hll, hla⟩ := Opens.list_of n each
  have at_ : ∀ i, i < n → ∃ z, l[i]? = some z ∧ cs[i]? = some (.int k z) ∧ xs[i]? = some (.lit (.int k z), []) := fun i hi => by
    have := List.getElem?_eq_getElem (l := l) (i := i) (by omega)
    exact ⟨l[i], this, (hla i _ this).1, (hla i _ this).2.1⟩
  have e1 : cs = l.map (fun i => Value.int k i) := by
    refine List.ext_getElem? fun i => ?_
    rw [List.getElem?_map]
    by_cases hi : i < n
    · obtain ⟨z, h1, h2, _⟩ := at_ i hi
      rw [h1, h2]; rfl
    · rw [List.getElem?_eq_none (by omega), List.getElem?_eq_none (by omega)]; rfl
  have e2 : xs = l.map (fun i => ((.lit (.int k i), []) : DataW H × List MemPlace)) := by
    refine List.ext_getElem? fun i => ?_
    rw [List.getElem?_map]
    by_cases hi : i < n
    · obtain ⟨z, h1, _, h3⟩ := at_ i hi
      rw [h1, h3]; rfl
    · rw [List.getElem?_eq_none (by omega), List.getElem?_eq_none (by omega)]; rfl
  refine ⟨l, hll, e1, ?_, fun i hi => ?_⟩
  · rw [e2, List.map_map]
    congr 1
    clear e2 e1 at_ hla hll
    induction l with
    | nil => rfl
    | cons a l ih => rw [List.map_cons, List.flatMap_cons, ih]; rfl
  · obtain ⟨j, hj⟩ := List.getElem?_of_mem hi
    exact (hla j i hj).2.2
end
/-- Numbers within a byte's range are bytes. -/
theorem bytes_of (l : List Int) (h : ∀ i ∈ l, (Lit.int .u8 i).wf = true) : ∃ d : List UInt8, l = d.map B := by
  refine ⟨l.map fun i => UInt8.ofNat i.toNat, ?_⟩
  rw [List.map_map]
  conv => lhs; rw [← List.map_id l]
  refine List.map_congr_left fun i hi => ?_
  have := bounds_u8 (h i hi)
  show i = ((UInt8.ofNat i.toNat).toNat : Int)
  rw [UInt8.toNat_ofNat']
  omega
theorem lits_inj {k : IntKind} {a b : List Int} (h : (DataW.agg (a.map fun i => .lit (.int k i)) : DataW Unit) = .agg (b.map fun i => .lit (.int k i))) : a = b := by
  injection h with h
  have hinj : Function.Injective (fun i : Int => (DataW.lit (.int k i) : DataW Unit)) := fun x y hxy => by injection hxy with hxy; injection hxy
  exact List.map_inj_right (fun x y hxy => hinj hxy) |>.1 h
theorem rounds_data : (Rows.laid_depot_sha_rounds : DataW Unit) = .agg ((K.map U).map fun i => .lit (.int .u32 i)) := by kernel_rfl
theorem start_data : (Rows.laid_depot_sha_start : DataW Unit) = .agg (([H0.a, H0.b, H0.c, H0.d, H0.e, H0.f, H0.g, H0.k].map U).map fun i => .lit (.int .u32 i)) := by kernel_rfl
theorem gType0 : (Tryd.prog.globals[0]?).map (·.type) = some 70 := by kernel_rfl
theorem gType1 : (Tryd.prog.globals[1]?).map (·.type) = some 85 := by kernel_rfl
/-- One listed table, in the heap. -/
theorem table {w : World} {nm : String} {g n : Nat} {tt e : TypeId} {ws : List Int} {d : DataW Unit} {t : TypeId} {cs : Array Value} {fuel gg : Nat} {p ps : List MemPlace} (hg : Tryd.prog.globalNamed nm = some g) (hgt : (Tryd.prog.globals[g]?).map (·.type) = some tt)
    (htu : Tryd.prog.underlying tt = some (.array n e)) (heu : Tryd.prog.underlying e = some (.int .u32)) (hce : Tryd.prog.cellsOf e = 1) (hct : Tryd.prog.cellsOf tt = n) (hn : 0 < n) (hd : d = .agg (ws.map fun i => .lit (.int .u32 i)))
    (h1 : Tryd.prog.globalNamed nm = some gg) (h2 : (Tryd.prog.globals[gg]?).map (·.type) = some t) (h3 : w.var? Tryd.prog nm = some cs) (h4 : DataW.trod (fun _ => ()) Tryd.prog w 0 (fun _ => true) false fuel t cs.toList = some (d, p))
    (hp : ∀ off, off < cs.size → MemPlace.cell g off ∈ ps) (hall : ∀ b off, MemPlace.cell b off ∈ ps → (∃ c t, w.heap[b]? = some (.cells c t (0, 0)))) :
    ∃ t, w.heap[g]? = some (.cells (ws.map fun i => Value.int .u32 i).toArray t (0, 0)) := by
  rw [hg] at h1
  injection h1 with h1
  subst h1
  rw [hgt] at h2
  injection h2 with h2
  subst h2
  obtain ⟨l, hll, hcs, hx, _⟩ := open_ints htu heu hce hct h4
  injection hx with hx _
  rw [hd] at hx
  have := lits_inj hx
  subst this
  have hsz : cs.size = n := by rw [← Array.length_toList, hcs, List.length_map, hll]
  obtain ⟨c, t, hc⟩ := hall g 0 (hp 0 (by omega))
  unfold World.var? at h3
  rw [hg] at h3
  have h3' : (match w.heap[g]? with | some (.cells cs _ _) => some cs | _ => none) = some cs := h3
  rw [hc] at h3'
  injection h3' with h3'
  subst h3'
  refine ⟨t, ?_⟩
  rw [hc]
  congr 2
  exact Array.toList_inj.1 hcs
theorem row_mem (g : Nat) (n : Nat) : ∀ off, off < n → MemPlace.cell g off ∈ MemPlace.row ⟨g, 0, none⟩ n := by
  intro off h
  unfold MemPlace.row
  refine List.mem_map.2 ⟨off, List.mem_range.2 h, ?_⟩
  simp [Addr.add]
/-- The row's condition gives the tables. -/
theorem glob_of {w : World} (h : laidMetH Tryd.prog Door.laid2 w) : Glob w := by
  have h' : laidMet Tryd.prog Door.laid2 w := h
  obtain ⟨ps, ⟨g1, t1, cs1, fuel1, p1, q1, a1, b1, c1, d1, ⟨g2, t2, cs2, fuel2, p2, q2, a2, b2, c2, d2, hq2, rfl⟩, rfl⟩, _, hall⟩ := h'
  have e1 : g1 = 1 := Option.some.inj (a1.symm.trans Door.gRounds)
  have e2 : g2 = 0 := Option.some.inj (a2.symm.trans Door.gStart)
  have r1 := table (n := 64) (e := 69) (ws := K.map U) Door.gRounds gType1 Tryd.underlying85 Tryd.underlying69 (by kernel_rfl) (by kernel_rfl) (by omega) rounds_data a1 b1 c1 d1 (fun off ho => by
    subst e1
    exact List.mem_append_left _ (List.mem_append_left _ (row_mem _ _ off ho))) (fun b off hb => (hall b off hb).1)
  have r2 := table (n := 8) (e := 69) (ws := [H0.a, H0.b, H0.c, H0.d, H0.e, H0.f, H0.g, H0.k].map U) Door.gStart gType0 Tryd.underlying70 Tryd.underlying69 (by kernel_rfl) (by kernel_rfl) (by omega) start_data a2 b2 c2 d2 (fun off ho => by
    subst e2
    exact List.mem_append_right _ (List.mem_append_left _ (List.mem_append_left _ (row_mem _ _ off ho)))) (fun b off hb => (hall b off hb).1)
  refine ⟨?_, ?_⟩
  · obtain ⟨t, ht⟩ := r1
    exact ⟨t, by rw [ht, List.map_map]; rfl⟩
  · obtain ⟨t, ht⟩ := r2
    exact ⟨t, ht⟩
end Go.Proofs.YtglhbbijoeeclaaDoor.Sha
