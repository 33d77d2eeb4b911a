/- The document's SHA-256: a block's schedule. -/
import Derived.Test.YtdjhhljijpadoaaDoorRSha1
namespace Go.Proofs.YtdjhhljijpadoaaDoor.Sha
open Go.RowKit Go.Proofs.YtdjhhljijpadoaaDoorW.PrintWords Go.Proofs.YtdjhhljijpadoaaDoorW.PrintLast Go.Proofs.YtdjhhljijpadoaaDoorW.PrintMore Go.Proofs.YtdjhhljijpadoaaDoor.Bytes
set_option linter.unusedVariables false
set_option linter.unusedSimpArgs false
/-- A word, byte by byte. -/
def pv (b : List UInt8) (i : Nat) : Nat → B32
  | 0 => 0
  | j + 1 => pv b i j <<< (8 : Nat) + BitVec.ofNat 32 (b.getD (4 * i + j) 0).toNat
theorem shl_add (x : B32) (c : UInt8) (n : Nat) (h : x.toNat < n) (hn : n * 256 ≤ 4294967296) : (x <<< (8 : Nat) + BitVec.ofNat 32 c.toNat).toNat = x.toNat * 256 + c.toNat := by
  have hc := c.toNat_lt
  rw [BitVec.toNat_add, BitVec.toNat_shiftLeft, Nat.shiftLeft_eq, BitVec.toNat_ofNat]
  have : x.toNat * 2 ^ 8 = x.toNat * 256 := rfl
  rw [this, Nat.mod_eq_of_lt (a := x.toNat * 256) (by omega), Nat.mod_eq_of_lt (a := c.toNat) (by omega), Nat.mod_eq_of_lt (by omega)]
theorem be_nat (a b c d : UInt8) : (be a b c d).toNat = ((a.toNat * 256 + b.toNat) * 256 + c.toNat) * 256 + d.toNat := by
  have ha := a.toNat_lt
  have hb := b.toNat_lt
  have hc := c.toNat_lt
  have hd := d.toNat_lt
  unfold be
  simp only [BitVec.toNat_or, BitVec.toNat_shiftLeft, BitVec.toNat_ofNat, Nat.shiftLeft_eq]
  rw [Nat.mod_eq_of_lt (a := a.toNat) (by omega), Nat.mod_eq_of_lt (a := b.toNat) (by omega), Nat.mod_eq_of_lt (a := c.toNat) (by omega), Nat.mod_eq_of_lt (a := d.toNat) (by omega), Nat.mod_eq_of_lt (a := a.toNat * 2 ^ 24) (by omega), Nat.mod_eq_of_lt (a := b.toNat * 2 ^ 16) (by omega), Nat.mod_eq_of_lt (a := c.toNat * 2 ^ 8) (by omega)]
  have e1 := Nat.two_pow_add_eq_or_of_lt (i := 24) (b := b.toNat * 2 ^ 16) (by omega) a.toNat
  have e2 := Nat.two_pow_add_eq_or_of_lt (i := 16) (b := c.toNat * 2 ^ 8) (by omega) (a.toNat * 2 ^ 8 + b.toNat)
  have e3 := Nat.two_pow_add_eq_or_of_lt (i := 8) (b := d.toNat) (by omega) ((a.toNat * 2 ^ 8 + b.toNat) * 2 ^ 8 + c.toNat)
  rw [Nat.mul_comm a.toNat (2 ^ 24), ← e1, show 2 ^ 24 * a.toNat + b.toNat * 2 ^ 16 = 2 ^ 16 * (a.toNat * 2 ^ 8 + b.toNat) from by omega, ← e2, show 2 ^ 16 * (a.toNat * 2 ^ 8 + b.toNat) + c.toNat * 2 ^ 8 = 2 ^ 8 * ((a.toNat * 2 ^ 8 + b.toNat) * 2 ^ 8 + c.toNat) from by omega, ← e3]
  omega
theorem pv4 (b : List UInt8) (i : Nat) : pv b i 4 = wordAt b i := by
  apply BitVec.eq_of_toNat_eq
  unfold wordAt
  rw [be_nat]
  have h0 := (b.getD (4 * i) 0).toNat_lt
  have h1 := (b.getD (4 * i + 1) 0).toNat_lt
  have h2 := (b.getD (4 * i + 2) 0).toNat_lt
  have h3 := (b.getD (4 * i + 3) 0).toNat_lt
  have s0 : (pv b i 0).toNat = 0 := rfl
  have s1 : (pv b i 1).toNat = (b.getD (4 * i) 0).toNat := by
    have := shl_add (pv b i 0) (b.getD (4 * i + 0) 0) 1 (by rw [s0]; omega) (by omega)
    rw [s0] at this
    rw [pv, this]
    simp
  have s2 : (pv b i 2).toNat = (b.getD (4 * i) 0).toNat * 256 + (b.getD (4 * i + 1) 0).toNat := by
    have := shl_add (pv b i 1) (b.getD (4 * i + 1) 0) 256 (by rw [s1]; omega) (by omega)
    rw [s1] at this
    rw [pv, this]
  have s3 : (pv b i 3).toNat = ((b.getD (4 * i) 0).toNat * 256 + (b.getD (4 * i + 1) 0).toNat) * 256 + (b.getD (4 * i + 2) 0).toNat := by
    have := shl_add (pv b i 2) (b.getD (4 * i + 2) 0) 65536 (by rw [s2]; omega) (by omega)
    rw [s2] at this
    rw [pv, this]
  have := shl_add (pv b i 3) (b.getD (4 * i + 3) 0) 16777216 (by rw [s3]; omega) (by omega)
  rw [s3] at this
  rw [pv, this]
/-- words' boxes: the bytes, the answer, the schedule. -/
structure Wk (h : Nat) (w W : World) (b : List UInt8) (ws : List B32) : Prop where
  bb : W.heap[h]? = some (.cells (barr b) 49 (0, 0))
  rb : W.heap[h + 1]? = some (.cells (warr (List.replicate 64 0)) 88 (0, 0))
  wb : W.heap[h + 1 + 1]? = some (.cells (warr ws) 88 (0, 0))
  below : Below h w W
section
variable {h : Nat} {w W W2 : World} {b : List UInt8} {ws : List B32}
theorem Wk.start (w : World) (b : List UInt8) : Wk w.heap.size w (((w.alloc (.cells (barr b) 49)).alloc (.cells (warr (List.replicate 64 0)) 88)).alloc (.cells (warr (List.replicate 64 0)) 88)) b (List.replicate 64 0) := by
  have a1 : ∀ (W : World) (o : Obj), (W.alloc o).heap.size = W.heap.size + 1 := fun W o => Array.size_push _
  have a2 : ∀ (W : World) (o : Obj) (k : Nat), k < W.heap.size → (W.alloc o).heap[k]? = W.heap[k]? := fun W o k hk => ((Below.refl W.heap.size W).alloc (Nat.le_refl _) o).block k hk
  have a3 : ∀ (W : World) (o : Obj) (k : Nat), k = W.heap.size → (W.alloc o).heap[k]? = some o := fun W o k hk => by rw [hk]; exact World.alloc_heap_new W o
  refine ⟨?_, ?_, ?_, ?_⟩
  · rw [a2 _ _ _ (by simp only [a1]; omega), a2 _ _ _ (by simp only [a1]; omega), a3 _ _ _ rfl]
  · rw [a2 _ _ _ (by simp only [a1]; omega), a3 _ _ _ (by simp only [a1])]
  · rw [a3 _ _ _ (by simp only [a1])]
  · exact (((Below.refl _ w).alloc (Nat.le_refl _) _).alloc (by simp only [a1]; omega) _).alloc (by simp only [a1]; omega) _
theorem Wk.lt (k : Wk h w W b ws) : h + 1 + 1 < W.heap.size := (Array.getElem?_eq_some_iff.1 k.wb).1
theorem Wk.keep (k : Wk h w W b ws) (hb : Below W.heap.size W W2) : Wk h w W2 b ws := by
  have z := k.lt
  exact ⟨(hb.block _ (by omega)).trans k.bb, (hb.block _ (by omega)).trans k.rb, (hb.block _ (by omega)).trans k.wb, k.below.trans (hb.mono (by omega))⟩
theorem Wk.byte (k : Wk h w W b ws) (i : Nat) (hi : i < b.length) : W.cell? ⟨h, i, none⟩ = some (.int .u8 (B (b.getD i 0))) := by
  simp [World.cell?, k.bb, barr, List.getElem?_map, List.getElem?_eq_getElem hi, List.getD_eq_getElem?_getD, bcell]
theorem Wk.word (k : Wk h w W b ws) (i : Nat) (hi : i < ws.length) : W.cell? ⟨h + 1 + 1, i, none⟩ = some (.int .u32 (U (ws.getD i 0))) := by
  simp [World.cell?, k.wb, warr, List.getElem?_map, List.getElem?_eq_getElem hi, List.getD_eq_getElem?_getD, wcell]
theorem Wk.fro (k : Wk h w W b ws) (i : Nat) : W.frozen? ⟨h + 1 + 1, i, none⟩ = false := by simp [World.frozen?, k.wb]
theorem Wk.set (k : Wk h w W b ws) (i : Nat) (x : B32) : Wk h w (W.setCell ⟨h + 1 + 1, i, none⟩ (.int .u32 (U x))) b (ws.set i x) := by
  refine ⟨(Below.heap_setCell _ _ _ _ (by show h ≠ h + 1 + 1; omega)).trans k.bb, (Below.heap_setCell _ _ _ _ (by show h + 1 ≠ h + 1 + 1; omega)).trans k.rb, ?_, ?_⟩
  · have := k.wb
    simp [World.setCell, Array.getElem?_modify, this, warr, List.map_set, wcell]
  · exact k.below.trans ⟨rfl, rfl, rfl, (KeepsWalks.setCell W _ _).size, fun i hi => Below.heap_setCell _ _ _ i (by show i ≠ h + 1 + 1; omega)⟩
end
theorem filled_nil : filled [] = List.replicate 64 0 := rfl
/-- The schedule, the word at work put in. -/
def inWork (b : List UInt8) (i j : Nat) : List B32 := (filled (first b i)).set i (pv b i j)
theorem inWork_len (b : List UInt8) (i j : Nat) (hi : i ≤ 64) : (inWork b i j).length = 64 := by
  rw [inWork, List.length_set, filled_len _ (by rw [first_len]; exact hi)]
theorem inWork_zero (b : List UInt8) (i : Nat) (hi : i < 64) : inWork b i 0 = filled (first b i) := by
  unfold inWork pv
  have hl := first_len b i
  apply List.ext_getElem?
  intro k
  rw [List.getElem?_set]
  split
  · rename_i h
    subst h
    rw [if_pos (by rw [filled_len _ (by omega)]; exact hi)]
    unfold filled
    rw [List.getElem?_append_right (by omega), List.getElem?_replicate, if_pos (by omega)]
  · rfl
theorem inWork_get (b : List UInt8) (i j : Nat) (hi : i < 64) : (inWork b i j).getD i 0 = pv b i j := by
  unfold inWork
  rw [List.getD_eq_getElem?_getD, List.getElem?_set, if_pos rfl, if_pos (by rw [filled_len _ (by rw [first_len]; omega)]; exact hi)]
  rfl
theorem inWork_set (b : List UInt8) (i j : Nat) : (inWork b i j).set i (pv b i (j + 1)) = inWork b i (j + 1) := by
  unfold inWork
  rw [List.set_set]
theorem inWork_four (b : List UInt8) (i : Nat) (hi : i < 64) : inWork b i 4 = filled (first b (i + 1)) := by
  unfold inWork
  have := filled_set (first b i) (wordAt b i) (by rw [first_len]; omega)
  rw [first_len] at this
  rw [pv4, this, first]
attribute [local go_sem] U_xor U_and U_or U_add U_add' U_shr3 U_shr8 U_shr10 U_shr16 U_shr24 U_shl8 U_shl16 U_shl24 U_shl8w U_shl16w U_shl24w B_wide B_wide' U_byte U_byte' U_not u32_signed u32_max
set_option maxRecDepth 100000 in
set_option maxHeartbeats 4000000 in
theorem words_calls (b : List UInt8) (hb : b.length = 64) (w : World) : Calls Tryd.prog 43 #[.agg (b.map bcell).toArray] w fun e w' => e = .returned (.agg (warr (sched b))) ∧ Below w.heap.size w w' := by
  have RT := Aside0.mk (fun (n : Nat) (h0 : 0 < n) (h1 : n < 32) (x : B32) (W : World) => turn_calls x n h0 h1 W)
  have R7 : Aside0 (∀ x W, Calls Tryd.prog 54 #[.int .u32 (U x), .int .u64 7] W fun e w' => e = .returned (.int .u32 (U (rotr x 7))) ∧ w' = W) := ⟨RT.out 7 (by decide) (by decide)⟩
  have R18 : Aside0 (∀ x W, Calls Tryd.prog 54 #[.int .u32 (U x), .int .u64 18] W fun e w' => e = .returned (.int .u32 (U (rotr x 18))) ∧ w' = W) := ⟨RT.out 18 (by decide) (by decide)⟩
  have R17 : Aside0 (∀ x W, Calls Tryd.prog 54 #[.int .u32 (U x), .int .u64 17] W fun e w' => e = .returned (.int .u32 (U (rotr x 17))) ∧ w' = W) := ⟨RT.out 17 (by decide) (by decide)⟩
  have R19 : Aside0 (∀ x W, Calls Tryd.prog 54 #[.int .u32 (U x), .int .u64 19] W fun e w' => e = .returned (.int .u32 (U (rotr x 19))) ∧ w' = W) := ⟨RT.out 19 (by decide) (by decide)⟩
  clear RT
  have hu53 := Tryd.underlying49
  have hu85 := Tryd.underlying88
  have HK0 := Aside0.mk (Wk.start w b)
  have HB := Aside0.mk hb
  clear hb
  go_enter Tryd.func43, Tryd.ntmps43
  go_wp2
  go_loopg [4] 64 (fun g v4 wx => ∃ i : Nat, i + g = 64 ∧ v4 = .int .i64 (i : Int) ∧ Aside0 (Wk w.heap.size w wx b (if i ≤ 16 then filled (first b i) else filled (more b (i - 16)))))
  case atStart => exact ⟨0, by omega, rfl, HK0⟩
  case round =>
    clear HK0
    obtain ⟨i, hig, rfl, HK⟩ := hrel
    cases gk with
    | zero =>
      obtain rfl : i = 64 := by omega
      have HK3 : Aside0 (Wk w.heap.size w wr b (sched b)) := by
        have e : filled (more b 48) = sched b := by
          unfold filled
          rw [more_len, Nat.sub_self]
          show more b 48 ++ [] = _
          rw [List.append_nil, sched]
        rw [← e]; exact HK
      clear HK
      have d1 : decide ((64 : Int) < 64) = false := decide_eq_false (by omega)
      go_wp2_with (first
        | ((with_reducible refine gate_dst (N := 73) rfl ?_); refine wpList_load_mid rfl 88 (.tmp 3) rfl (w.heap.size + 1 + 1) 0 rfl ((sched b).map wcell) _ (range_row HK3.out.wb) Tryd.underlying88 rfl (by rw [List.length_map, sched_len]; kernel_rfl) ?_)
        | ((with_reducible refine gate_store (t := 88) (p := 2) rfl ?_); refine wpList_store_row' rfl 88 (.tmp 2) (.tmp 73) rfl (w.heap.size + 1) 88 (warr (List.replicate 64 0)) (warr (sched b)) rfl rfl HK3.out.rb (by rw [warr, List.size_toArray, List.length_map, sched_len]; kernel_rfl) (by rw [warr, warr, List.size_toArray, List.size_toArray, List.length_map, List.length_map, sched_len]; rfl) (all_oneCell_toArray fun u hu => by obtain ⟨y, _, rfl⟩ := List.mem_map.1 hu; rfl) ?_; intro w9 hw9; have HX9 : Aside0 (w9.heap[w.heap.size + 1]? = some (.cells (warr (sched b)) 88 (0, 0))) := ⟨by rw [hw9]; exact setRow_heap _ _ _ _ _ _ HK3.out.rb⟩; have HB9 : Aside0 (Below w.heap.size w w9) := ⟨by rw [hw9]; exact below_setRow HK3.out.below (Nat.le_succ _) _⟩; clear hw9))
      exact bodyPost_ret (v := .agg (warr (sched b))) (results_cell_row rfl _ _ (w.heap.size + 1) 88 (warr (sched b)) (0, 0) _ rfl HX9.out Tryd.underlying88 rfl (by rw [warr, List.size_toArray, List.length_map, sched_len]; kernel_rfl)) rfl ⟨rfl, HB9.out⟩
    | succ k1 =>
      have d1 : decide ((i : Int) < 64) = true := decide_eq_true (by omega)
      by_cases hi : i < 16
      · have d2 : decide ((i : Int) < 16) = true := decide_eq_true (by omega)
        have HK1 : Aside0 (Wk w.heap.size w wr b (inWork b i 0)) := ⟨by rw [inWork_zero b i (by omega)]; have := HK.out; rw [if_pos (by omega)] at this; exact this⟩
        clear HK
        go_wp2
        go_loopg [5] 4 (fun g v5 wx => ∃ j : Nat, j + g = 4 ∧ v5 = .int .i64 (j : Int) ∧ Aside0 (Wk w.heap.size w wx b (inWork b i j)))
        case atStart => exact ⟨0, by omega, rfl, HK1⟩
        case round =>
          clear HK1
          obtain ⟨j, hjg, rfl, HK⟩ := hrel
          cases gk with
          | zero =>
            obtain rfl : j = 4 := by omega
            go_wp2
            go_roundg k1
            case measure => omega
            case rel =>
              refine ⟨i + 1, by omega, by go_num, ⟨?_⟩⟩
              rw [if_pos (by omega), ← inWork_four b i (by omega)]
              exact HK.out
          | succ k2 =>
            have e0 : (4 * (i : Int) + (j : Int)).toNat = 4 * i + j := by omega
            have p0 : (0 ≤ 4 * (i : Int) + (j : Int)) = True := eq_true (by omega)
            have q0 : (4 * (i : Int) + (j : Int) < 64) = True := eq_true (by omega)
            have p9 : (0 ≤ (i : Int)) = True := eq_true (by omega)
            have q9 : ((i : Int) < 64) = True := eq_true (by omega)
            have d3 : decide ((j : Int) < 4) = true := decide_eq_true (by omega)
            have wr_ : ∀ x : Int, 0 ≤ x → x < 1000 → IntKind.i64.wrap x = x := fun x h0 h1 => by rw [IntKind.wrap_i64]; omega
            have m0 := wr_ (4 * (i : Int)) (by omega) (by omega)
            have m1 := wr_ (4 * (i : Int) + (j : Int)) (by omega) (by omega)
            clear wr_
            go_wp2
            refine wp_region_still_tail 14 (by kernel_rfl) (by kernel_rfl) ?_
            change wpStill _ _ (World.drew wr) (fun a' => wpList _ _ _ _ a' (World.drew wr)) _ _
            have HK2 := Aside0.mk (HK.out.keep (below_drew (Below.refl _ wr)))
            generalize World.drew wr = w2 at HK2 ⊢
            have y0 := HK2.out.byte (4 * i + j) (by rw [HB.out]; omega)
            have y1 := HK2.out.word i (by rw [inWork_len _ _ _ (by omega)]; omega)
            rw [inWork_get b i j (by omega)] at y1
            obtain ⟨x0, hx0⟩ : ∃ x, b.getD (4 * i + j) 0 = x := ⟨_, rfl⟩
            obtain ⟨xp, hxp⟩ : ∃ x, pv b i j = x := ⟨_, rfl⟩
            have HPV := Aside0.mk (show pv b i (j + 1) = xp <<< (8 : Nat) + BitVec.ofNat 32 x0.toNat from by rw [pv, hx0, hxp])
            rw [hx0] at y0
            rw [hxp] at y1
            have y5 := HK2.out.fro i
            clear hx0 hxp HK
            simp only [List.take_succ_cons, List.take_zero, List.drop_succ_cons, List.drop_zero]
            repeat still_step
            refine wpStill_nil ?_
            change wpList _ _ _ _ _ w2
            go_wp2
            clear m0 m1
            go_roundg k2
            case measure => omega
            case rel =>
              refine ⟨j + 1, by omega, by go_num, ⟨?_⟩⟩
              rw [← inWork_set, HPV.out]
              exact HK2.out.set i _
      · have d2 : decide ((i : Int) < 16) = false := decide_eq_false (by omega)
        obtain ⟨n, hn⟩ : ∃ n, i = 16 + n := ⟨i - 16, by omega⟩
        have HK1 : Aside0 (Wk w.heap.size w wr b (filled (more b n))) := ⟨by
          have := HK.out
          by_cases h16 : i ≤ 16
          · obtain rfl : n = 0 := by omega
            rw [if_pos h16, show i = 16 from by omega] at this
            exact this
          · rw [if_neg h16, show i - 16 = n from by omega] at this
            exact this⟩
        clear HK
        have e15 : ((i : Int) - 15).toNat = i - 15 := by omega
        have e2 : ((i : Int) - 2).toNat = i - 2 := by omega
        have e16 : ((i : Int) - 16).toNat = i - 16 := by omega
        have e7 : ((i : Int) - 7).toNat = i - 7 := by omega
        have a15 : (0 ≤ (i : Int) - 15) = True := eq_true (by omega)
        have a2 : (0 ≤ (i : Int) - 2) = True := eq_true (by omega)
        have a16 : (0 ≤ (i : Int) - 16) = True := eq_true (by omega)
        have a7 : (0 ≤ (i : Int) - 7) = True := eq_true (by omega)
        have s15 : (15 ≤ (i : Int)) = True := eq_true (by omega)
        have s2 : (2 ≤ (i : Int)) = True := eq_true (by omega)
        have s16 : (16 ≤ (i : Int)) = True := eq_true (by omega)
        have s7 : (7 ≤ (i : Int)) = True := eq_true (by omega)
        have b15 : ((i : Int) - 15 < 64) = True := eq_true (by omega)
        have b2 : ((i : Int) - 2 < 64) = True := eq_true (by omega)
        have b16 : ((i : Int) - 16 < 64) = True := eq_true (by omega)
        have b7 : ((i : Int) - 7 < 64) = True := eq_true (by omega)
        have p9 : (0 ≤ (i : Int)) = True := eq_true (by omega)
        have q9 : ((i : Int) < 64) = True := eq_true (by omega)
        obtain ⟨l, hl⟩ : ∃ l, more b n = l := ⟨_, rfl⟩
        have hll : l.length = 16 + n := by rw [← hl]; exact more_len b n
        rw [hl] at HK1
        obtain ⟨x15, hx15⟩ : ∃ x, l.getD (i - 15) 0 = x := ⟨_, rfl⟩
        obtain ⟨x2, hx2⟩ : ∃ x, l.getD (i - 2) 0 = x := ⟨_, rfl⟩
        obtain ⟨x16, hx16⟩ : ∃ x, l.getD (i - 16) 0 = x := ⟨_, rfl⟩
        obtain ⟨x7, hx7⟩ : ∃ x, l.getD (i - 7) 0 = x := ⟨_, rfl⟩
        have hlj : l.length = i := by omega
        have HN := Aside0.mk (show filled (more b (n + 1)) = (filled l).set i ((rotr x2 17 ^^^ rotr x2 19 ^^^ x2 >>> (10 : Nat)) + x7 + (rotr x15 7 ^^^ rotr x15 18 ^^^ x15 >>> (3 : Nat)) + x16) from by
          have hcm : (rotr x2 17 ^^^ rotr x2 19 ^^^ x2 >>> (10 : Nat)) + x7 + (rotr x15 7 ^^^ rotr x15 18 ^^^ x15 >>> (3 : Nat)) + x16 = x16 + (rotr x15 7 ^^^ rotr x15 18 ^^^ x15 >>> (3 : Nat)) + x7 + (rotr x2 17 ^^^ rotr x2 19 ^^^ x2 >>> (10 : Nat)) := by
            ac_rfl
          rw [hcm]
          have := filled_set l (x16 + (rotr x15 7 ^^^ rotr x15 18 ^^^ x15 >>> (3 : Nat)) + x7 + (rotr x2 17 ^^^ rotr x2 19 ^^^ x2 >>> (10 : Nat))) (by omega)
          rw [hlj] at this
          rw [this, more, hl]
          unfold next
          rw [hlj, hx15, hx2, hx16, hx7])
        have KW := Aside0.mk (show ∀ W, Wk w.heap.size w W b (filled l) → (W.cell? ⟨w.heap.size + 1 + 1, i - 15, none⟩ = some (.int .u32 (U x15)) ∧ W.cell? ⟨w.heap.size + 1 + 1, i - 2, none⟩ = some (.int .u32 (U x2))) ∧ (W.cell? ⟨w.heap.size + 1 + 1, i - 16, none⟩ = some (.int .u32 (U x16)) ∧ W.cell? ⟨w.heap.size + 1 + 1, i - 7, none⟩ = some (.int .u32 (U x7))) from fun W hk => by
          have fl := filled_len l (by omega)
          have c15 := hk.word (i - 15) (by omega)
          have c2 := hk.word (i - 2) (by omega)
          have c16 := hk.word (i - 16) (by omega)
          have c7 := hk.word (i - 7) (by omega)
          rw [filled_get l _ (by omega)] at c15 c2 c16 c7
          rw [hx15] at c15
          rw [hx2] at c2
          rw [hx16] at c16
          rw [hx7] at c7
          exact ⟨⟨c15, c2⟩, c16, c7⟩)
        have HLJ := Aside0.mk hlj
        have HNI := Aside0.mk hn
        have HIG := Aside0.mk hig
        clear hx15 hx2 hx16 hx7 hl hll hlj hn
        obtain ⟨⟨c15, c2⟩, _, _⟩ := KW.out _ HK1.out
        have wr_ : ∀ x : Int, 0 ≤ x → x < 1000 → IntKind.i64.wrap x = x := fun x h0 h1 => by rw [IntKind.wrap_i64]; omega
        have m15 := wr_ ((i : Int) - 15) (by omega) (by omega)
        have m2 := wr_ ((i : Int) - 2) (by omega) (by omega)
        have m16 := wr_ ((i : Int) - 16) (by omega) (by omega)
        have m7 := wr_ ((i : Int) - 7) (by omega) (by omega)
        clear wr_
        go_wp2_with (first | (go_at_call 54; ((with_reducible refine (R7.out _ _).mono ?_)); rintro e w2 ⟨rfl, hw⟩; rw [hw]; clear hw) | (go_at_call 54; ((with_reducible refine (R18.out _ _).mono ?_)); rintro e w2 ⟨rfl, hw⟩; rw [hw]; clear hw) | (go_at_call 54; ((with_reducible refine (R17.out _ _).mono ?_)); rintro e w2 ⟨rfl, hw⟩; rw [hw]; clear hw) | (go_at_call 54; ((with_reducible refine (R19.out _ _).mono ?_)); rintro e w2 ⟨rfl, hw⟩; rw [hw]; clear hw))
        have HK5 : Aside0 (Wk w.heap.size w wr b (filled l)) := HK1
        clear c15 c2 HK1
        refine wp_region_still_tail 15 (by kernel_rfl) (by kernel_rfl) ?_
        change wpStill _ _ (World.drew wr) (fun a' => wpList _ _ _ _ a' (World.drew wr)) _ _
        have HK6 := Aside0.mk (HK5.out.keep (below_drew (Below.refl _ wr)))
        generalize World.drew wr = w6 at HK6 ⊢
        obtain ⟨⟨_, _⟩, c16, c7⟩ := KW.out _ HK6.out
        have hj64 : i < 64 := by omega
        have y4 := HK6.out.word i (by rw [filled_len _ (by rw [HLJ.out]; omega)]; exact hj64)
        have y5 := HK6.out.fro i
        clear hj64
        simp only [List.take_succ_cons, List.take_zero, List.drop_succ_cons, List.drop_zero]
        repeat still_step
        refine wpStill_nil ?_
        change wpList _ _ _ _ _ w6
        go_wp2
        clear m15 m2 m16 m7
        go_roundg k1
        case measure => omega
        case rel =>
          have hn := HNI.out
          refine ⟨i + 1, by omega, by go_num, ⟨?_⟩⟩
          rw [if_neg (by omega), show i + 1 - 16 = n + 1 from by omega, HN.out]
          exact HK6.out.set i _
end Go.Proofs.YtdjhhljijpadoaaDoor.Sha
