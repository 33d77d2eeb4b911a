/- The document's SHA-256: turn, step. -/
import Derived.Test.YtdjhhljijpadoaaDoorShaSum
namespace Go.Proofs.YtdjhhljijpadoaaDoor.Sha
open Go.RowKit Go.Proofs.YtdjhhljijpadoaaDoorW.PrintWords Go.Proofs.YtdjhhljijpadoaaDoorW.PrintLast Go.Proofs.YtdjhhljijpadoaaDoorW.PrintMore Go.Proofs.YtdjhhljijpadoaaDoor.Bytes
set_option linter.unusedVariables false
set_option linter.unusedSimpArgs false
/-- A word twice, turned: its low half. -/
theorem twice_turn (x : B32) (n : Nat) (h0 : 0 < n) (hn : n < 32) : (((x.setWidth 64 <<< 32 ||| x.setWidth 64) >>> n).setWidth 32 : B32) = rotr x n := by
  unfold rotr
  apply BitVec.eq_of_getLsbD_eq
  intro i hi
  simp only [BitVec.getLsbD_setWidth, BitVec.getLsbD_ushiftRight, BitVec.getLsbD_or, BitVec.getLsbD_shiftLeft]
  have e1 : decide (i < 32) = true := decide_eq_true hi
  have e2 : decide (n + i < 64) = true := decide_eq_true (by omega)
  have e3 : decide (n + i - 32 < 64) = true := decide_eq_true (by omega)
  rw [e1, e2, e3]
  by_cases h : n + i < 32
  · have e4 : decide (n + i < 32) = true := decide_eq_true h
    have e5 : decide (i < 32 - n) = true := decide_eq_true (by omega)
    rw [e4, e5]
    simp
  · have e4 : decide (n + i < 32) = false := decide_eq_false h
    have e5 : decide (i < 32 - n) = false := decide_eq_false (by omega)
    have e6 : x.getLsbD (n + i) = false := BitVec.getLsbD_of_ge _ _ (by omega)
    rw [e4, e5, e6, show i - (32 - n) = n + i - 32 from by omega]
    simp
theorem twice_nat (X : Nat) (hX : X < 4294967296) : (X * 4294967296 % 18446744073709551616) ||| X = X * 4294967296 + X := by
  rw [Nat.mod_eq_of_lt (by omega)]
  have := Nat.two_pow_add_eq_or_of_lt (i := 32) (b := X) (by omega) X
  rw [Nat.mul_comm X 4294967296, show (4294967296 : Nat) = 2 ^ 32 from rfl, this]
/-- turn, in numbers. -/
theorem turn_nat (x : B32) (n : Nat) (h0 : 0 < n) (hn : n < 32) : (U x * 4294967296 + U x) / 2 ^ n % 4294967296 = U (rotr x n) := by
  rw [← twice_turn x n h0 hn]
  unfold U
  rw [BitVec.toNat_setWidth, BitVec.toNat_ushiftRight, BitVec.toNat_or, BitVec.toNat_shiftLeft, BitVec.toNat_setWidth, Nat.shiftLeft_eq, Nat.shiftRight_eq_div_pow]
  have hx := x.isLt
  rw [Nat.mod_eq_of_lt (show x.toNat < 2 ^ 64 by omega)]
  have := twice_nat x.toNat hx
  rw [show (2 : Nat) ^ 32 = 4294967296 from rfl, show (2 : Nat) ^ 64 = 18446744073709551616 from rfl, this]
  rw [Int.natCast_emod, Int.natCast_ediv, Int.natCast_add, Int.natCast_mul, Int.natCast_pow]
  rfl
theorem or_twice (x : B32) : bits .or .u64 (U x * 4294967296) (U x) = U x * 4294967296 + U x := by
  unfold U
  have hx := x.isLt
  have e : ((x.toNat : Int) * 4294967296) = ((x.toNat * 4294967296 : Nat) : Int) := by rw [Int.natCast_mul]; rfl
  rw [e, u64_or_nat _ _ (by omega) (by omega)]
  have := twice_nat x.toNat hx
  rw [Nat.mod_eq_of_lt (by omega)] at this
  rw [this, Int.natCast_add]
attribute [local go_sem] U_xor U_and U_or U_add U_add' U_not u32_signed u32_max or_twice
set_option maxRecDepth 100000 in
set_option maxHeartbeats 2000000 in
theorem turn_calls (x : B32) (n : Nat) (h0 : 0 < n) (hn : n < 32) (w : World) : Calls Tryd.prog 54 #[.int .u32 (U x), .int .u64 (n : Int)] w fun e w' => e = .returned (.int .u32 (U (rotr x n))) ∧ w' = w := by
  have p1 : 0 ≤ (n : Int) := by omega
  have p2 : (n : Int) ≤ 64 := by omega
  have hU := U_lt x
  have hw : IntKind.u64.wrap (U x) = U x := by rw [IntKind.wrap_u64]; omega
  have hw2 : IntKind.u64.wrap (U x * 4294967296) = U x * 4294967296 := by rw [IntKind.wrap_u64]; omega
  have hm : U x * 4294967296 % 18446744073709551616 = U x * 4294967296 := by omega
  have hm2 : U x % 18446744073709551616 = U x := by omega
  go_enter Tryd.func54, Tryd.ntmps54
  go_wp2
  go_ret
  exact ⟨by rw [turn_nat x n h0 hn]; rfl, rfl⟩
/-- A round, the constant and the word together. -/
def stepV (v : V8) (x : B32) : V8 :=
  let choose := (v.e &&& v.f) ||| (~~~v.e &&& v.g)
  let most := (v.a &&& v.b) ||| (v.a &&& v.c) ||| (v.b &&& v.c)
  let one := v.k + (rotr v.e 6 ^^^ rotr v.e 11 ^^^ rotr v.e 25) + choose + x
  let two := (rotr v.a 2 ^^^ rotr v.a 13 ^^^ rotr v.a 22) + most
  ⟨one + two, v.a, v.b, v.c, v.d + one, v.e, v.f, v.g⟩
theorem choose_eq (e f g : B32) : (e &&& f) ||| (~~~e &&& g) = e &&& f ^^^ (~~~e &&& g) := by
  apply BitVec.eq_of_getLsbD_eq
  intro i hi
  simp only [BitVec.getLsbD_or, BitVec.getLsbD_and, BitVec.getLsbD_xor, BitVec.getLsbD_not, decide_eq_true hi]
  cases e.getLsbD i <;> cases f.getLsbD i <;> cases g.getLsbD i <;> rfl
theorem most_eq (a b c : B32) : (a &&& b) ||| (a &&& c) ||| (b &&& c) = a &&& b ^^^ a &&& c ^^^ b &&& c := by
  apply BitVec.eq_of_getLsbD_eq
  intro i hi
  simp only [BitVec.getLsbD_or, BitVec.getLsbD_and, BitVec.getLsbD_xor]
  cases a.getLsbD i <;> cases b.getLsbD i <;> cases c.getLsbD i <;> rfl
theorem step_round (v : V8) (c w : B32) : stepV v (c + w) = round v c w := by
  unfold stepV round
  simp only [choose_eq, most_eq, BitVec.add_assoc]
theorem size_alloc (w : World) (o : Obj) : (w.alloc o).heap.size = w.heap.size + 1 := by simp [World.alloc, -World.alloc_eq]
/-- A row of 8 words in a block of its own. -/
theorem cells8 {W : World} {h : Nat} {v : V8} {t : TypeId} (hb : W.heap[h]? = some (.cells v.cells t (0, 0))) : (W.cell? ⟨h, 0, none⟩ = some (.int .u32 (U v.a)) ∧ W.cell? ⟨h, 1, none⟩ = some (.int .u32 (U v.b)) ∧ W.cell? ⟨h, 2, none⟩ = some (.int .u32 (U v.c)) ∧ W.cell? ⟨h, 3, none⟩ = some (.int .u32 (U v.d))) ∧ (W.cell? ⟨h, 4, none⟩ = some (.int .u32 (U v.e)) ∧ W.cell? ⟨h, 5, none⟩ = some (.int .u32 (U v.f)) ∧ W.cell? ⟨h, 6, none⟩ = some (.int .u32 (U v.g)) ∧ W.cell? ⟨h, 7, none⟩ = some (.int .u32 (U v.k))) := by
  refine ⟨⟨?_, ?_, ?_, ?_⟩, ?_, ?_, ?_, ?_⟩ <;> simp [World.cell?, hb, V8.cells, wcell]
theorem fro_of {W : World} {h : Nat} {cs : Array Value} {t : TypeId} (hb : W.heap[h]? = some (.cells cs t (0, 0))) (i : Nat) : W.frozen? ⟨h, i, none⟩ = false := by simp [World.frozen?, hb]
set_option maxRecDepth 100000 in
set_option maxHeartbeats 4000000 in
theorem step_calls (v : V8) (x : B32) (w : World) : Calls Tryd.prog 45 #[.agg v.cells, .int .u32 (U x)] w fun e w' => e = .returned (.agg (stepV v x).cells) ∧ Below w.heap.size w w' := by
  have RT := Aside0.mk (fun (n : Nat) (h0 : 0 < n) (h1 : n < 32) (x : B32) (W : World) => turn_calls x n h0 h1 W)
  have R6 : Aside0 (∀ x W, Calls Tryd.prog 54 #[.int .u32 (U x), .int .u64 6] W fun e w' => e = .returned (.int .u32 (U (rotr x 6))) ∧ w' = W) := ⟨RT.out 6 (by decide) (by decide)⟩
  have R11 : Aside0 (∀ x W, Calls Tryd.prog 54 #[.int .u32 (U x), .int .u64 11] W fun e w' => e = .returned (.int .u32 (U (rotr x 11))) ∧ w' = W) := ⟨RT.out 11 (by decide) (by decide)⟩
  have R25 : Aside0 (∀ x W, Calls Tryd.prog 54 #[.int .u32 (U x), .int .u64 25] W fun e w' => e = .returned (.int .u32 (U (rotr x 25))) ∧ w' = W) := ⟨RT.out 25 (by decide) (by decide)⟩
  have R2 : Aside0 (∀ x W, Calls Tryd.prog 54 #[.int .u32 (U x), .int .u64 2] W fun e w' => e = .returned (.int .u32 (U (rotr x 2))) ∧ w' = W) := ⟨RT.out 2 (by decide) (by decide)⟩
  have R13 : Aside0 (∀ x W, Calls Tryd.prog 54 #[.int .u32 (U x), .int .u64 13] W fun e w' => e = .returned (.int .u32 (U (rotr x 13))) ∧ w' = W) := ⟨RT.out 13 (by decide) (by decide)⟩
  have R22 : Aside0 (∀ x W, Calls Tryd.prog 54 #[.int .u32 (U x), .int .u64 22] W fun e w' => e = .returned (.int .u32 (U (rotr x 22))) ∧ w' = W) := ⟨RT.out 22 (by decide) (by decide)⟩
  clear RT
  obtain ⟨W2, hW2⟩ : ∃ W2, (w.alloc (.cells v.cells 69)).alloc (.cells (V8.cells ⟨0, 0, 0, 0, 0, 0, 0, 0⟩) 69) = W2 := ⟨_, rfl⟩
  have HB2 : Aside0 (Below w.heap.size w W2) := ⟨by rw [← hW2]; exact ((Below.refl _ w).alloc (Nat.le_refl _) _).alloc (by rw [size_alloc]; omega) _⟩
  have HX0 : Aside0 (W2.heap[w.heap.size]? = some (.cells v.cells 69 (0, 0))) := ⟨by
    rw [← hW2, ((Below.refl (w.alloc (.cells v.cells 69)).heap.size _).alloc (Nat.le_refl _) _).block _ (by rw [size_alloc]; omega)]
    exact World.alloc_heap_new w _⟩
  have HX1 : Aside0 (W2.heap[w.heap.size + 1]? = some (.cells (V8.cells ⟨0, 0, 0, 0, 0, 0, 0, 0⟩) 69 (0, 0))) := ⟨by
    rw [← hW2]
    have := World.alloc_heap_new (w.alloc (.cells v.cells 69)) (.cells (V8.cells ⟨0, 0, 0, 0, 0, 0, 0, 0⟩) 69)
    rw [size_alloc] at this
    exact this⟩
  go_enter Tryd.func45, Tryd.ntmps45
  go_upto_region 1 with fail
  change Code.wp _ _ _ _ ((w.alloc (.cells v.cells 69)).alloc (.cells (V8.cells ⟨0, 0, 0, 0, 0, 0, 0, 0⟩) 69))
  rw [hW2]
  clear hW2
  obtain ⟨⟨k0, k1, k2, k3⟩, k4, k5, k6, k7⟩ := cells8 HX0.out
  obtain ⟨⟨q0, q1, q2, q3⟩, q4, q5, q6, q7⟩ := cells8 HX1.out
  have rf := fro_of HX1.out
  have hu70 := Tryd.underlying69
  go_wp2
  go_quiet (first | (go_at_call 54; ((with_reducible refine (R6.out _ _).mono ?_)); rintro e w2 ⟨rfl, hw⟩; exact ⟨rfl, _, hw⟩) | (go_at_call 54; ((with_reducible refine (R11.out _ _).mono ?_)); rintro e w2 ⟨rfl, hw⟩; exact ⟨rfl, _, hw⟩) | (go_at_call 54; ((with_reducible refine (R25.out _ _).mono ?_)); rintro e w2 ⟨rfl, hw⟩; exact ⟨rfl, _, hw⟩))
  go_wp2
  go_quiet (first | (go_at_call 54; ((with_reducible refine (R2.out _ _).mono ?_)); rintro e w2 ⟨rfl, hw⟩; exact ⟨rfl, _, hw⟩) | (go_at_call 54; ((with_reducible refine (R13.out _ _).mono ?_)); rintro e w2 ⟨rfl, hw⟩; exact ⟨rfl, _, hw⟩) | (go_at_call 54; ((with_reducible refine (R22.out _ _).mono ?_)); rintro e w2 ⟨rfl, hw⟩; exact ⟨rfl, _, hw⟩))
  go_wp2
  refine bodyPost_ret (v := .agg (stepV v x).cells) (results_cell_row rfl _ _ (w.heap.size + 1) 69 (stepV v x).cells (0, 0) _ rfl ?_ Tryd.underlying69 rfl (by kernel_rfl)) rfl ⟨rfl, ?_⟩
  · simp [World.setCell, Array.getElem?_modify, HX1.out, V8.cells, wcell, stepV]
  · exact below_set (below_set (below_set (below_set (below_set (below_set (below_set (below_set (pw_below_drewN HB2.out _) _ _ (by simp)) _ _ (by simp)) _ _ (by simp)) _ _ (by simp)) _ _ (by simp)) _ _ (by simp)) _ _ (by simp)) _ _ (by simp)
set_option maxRecDepth 100000 in
set_option maxHeartbeats 4000000 in
theorem start_calls (w : World) : Calls Tryd.prog 35 #[] w fun e w' => e = .returned (.agg H0.cells) ∧ Below w.heap.size w w' := by
  have hu70 := Tryd.underlying69
  obtain ⟨W1, hW1⟩ : ∃ W1, w.alloc (.cells (V8.cells ⟨0, 0, 0, 0, 0, 0, 0, 0⟩) 69) = W1 := ⟨_, rfl⟩
  have HB1 : Aside0 (Below w.heap.size w W1) := ⟨by rw [← hW1]; exact (Below.refl _ w).alloc (Nat.le_refl _) _⟩
  have HX1 : Aside0 (W1.heap[w.heap.size]? = some (.cells (V8.cells ⟨0, 0, 0, 0, 0, 0, 0, 0⟩) 69 (0, 0))) := ⟨by rw [← hW1]; exact World.alloc_heap_new w _⟩
  go_enter Tryd.func35, Tryd.ntmps35
  go_upto_region 1 with fail
  change Code.wp _ _ _ _ (w.alloc (.cells (V8.cells ⟨0, 0, 0, 0, 0, 0, 0, 0⟩) 69))
  rw [hW1]
  clear hW1
  obtain ⟨⟨q0, q1, q2, q3⟩, q4, q5, q6, q7⟩ := cells8 HX1.out
  have rf := fro_of HX1.out
  go_wp2
  refine bodyPost_ret (v := .agg H0.cells) (results_cell_row rfl _ _ w.heap.size 69 H0.cells (0, 0) _ rfl ?_ Tryd.underlying69 rfl (by kernel_rfl)) rfl ⟨rfl, ?_⟩
  · simp [World.setCell, Array.getElem?_modify, HX1.out, V8.cells, wcell, H0, U]
  · exact below_set (below_set (below_set (below_set (below_set (below_set (below_set (below_set HB1.out _ _ (by simp)) _ _ (by simp)) _ _ (by simp)) _ _ (by simp)) _ _ (by simp)) _ _ (by simp)) _ _ (by simp)) _ _ (by simp)
set_option maxRecDepth 100000 in
set_option maxHeartbeats 4000000 in
theorem constants_calls (w : World) : Calls Tryd.prog 44 #[] w fun e w' => e = .returned (.agg (warr K)) ∧ Below w.heap.size w w' := by
  have hu85 := Tryd.underlying88
  obtain ⟨W1, hW1⟩ : ∃ W1, w.alloc (.cells (warr (List.replicate 64 0)) 88) = W1 := ⟨_, rfl⟩
  have HB1 : Aside0 (Below w.heap.size w W1) := ⟨by rw [← hW1]; exact (Below.refl _ w).alloc (Nat.le_refl _) _⟩
  have HX1 : Aside0 (W1.heap[w.heap.size]? = some (.cells (warr (List.replicate 64 0)) 88 (0, 0))) := ⟨by rw [← hW1]; exact World.alloc_heap_new w _⟩
  go_enter Tryd.func44, Tryd.ntmps44
  go_upto_region 1 with fail
  change Code.wp _ _ _ _ (w.alloc (.cells (warr (List.replicate 64 0)) 88))
  rw [hW1]
  clear hW1
  go_wp2_with (first
    | ((with_reducible refine gate_store (t := 88) (p := 0) rfl ?_); refine wpList_store_row' rfl 88 (.tmp 0) (.tmp 1) rfl w.heap.size 88 (warr (List.replicate 64 0)) (warr K) rfl (by kernel_rfl) HX1.out (by kernel_rfl) (by kernel_rfl) (by kernel_rfl) ?_; intro w9 hw9; have HX9 : Aside0 (w9.heap[w.heap.size]? = some (.cells (warr K) 88 (0, 0))) := ⟨by rw [hw9]; exact setRow_heap _ _ _ _ _ _ HX1.out⟩; have HB9 : Aside0 (Below w.heap.size w w9) := ⟨by rw [hw9]; exact below_setRow HB1.out (Nat.le_refl _) _⟩; clear hw9))
  exact bodyPost_ret (v := .agg (warr K)) (results_cell_row rfl _ _ w.heap.size 88 (warr K) (0, 0) _ rfl HX9.out Tryd.underlying88 rfl (by kernel_rfl)) rfl ⟨rfl, HB9.out⟩
end Go.Proofs.YtdjhhljijpadoaaDoor.Sha
