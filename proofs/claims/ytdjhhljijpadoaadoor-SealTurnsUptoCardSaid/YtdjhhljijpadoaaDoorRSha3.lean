/- The document's SHA-256: a block. -/
import Derived.Test.YtdjhhljijpadoaaDoorRSha2
import Derived.Test.YtdjhhljijpadoaaDoorShaTook
namespace Go.Proofs.YtdjhhljijpadoaaDoor.Sha
open Go.Proofs.YtdjhhljijpadoaaDoor.OrdersBut Go.RowKit Go.Proofs.YtdjhhljijpadoaaDoorW.PrintWords Go.Proofs.YtdjhhljijpadoaaDoorW.PrintLast Go.Proofs.YtdjhhljijpadoaaDoorW.PrintMore Go.Proofs.YtdjhhljijpadoaaDoor.Bytes
set_option linter.unusedVariables false
set_option linter.unusedSimpArgs false
theorem setCell_rowT (w : World) (b i : Nat) (cs : List Value) (v : Value) (t : TypeId) (hg : w.heap[b]? = some (.cells cs.toArray t (0, 0))) : w.setCell ⟨b, i, none⟩ v = w.setRow b (cs.set i v).toArray := by
  rw [setCell_eq_setRow w b i _ _ _ v hg]
  simp
theorem setCells_rowT (w : World) (b : Nat) (vs : List Value) (t : TypeId) : ∀ (o : Nat) (cs : List Value), w.heap[b]? = some (.cells cs.toArray t (0, 0)) → o + vs.length ≤ cs.length → w.setCells b o vs = w.setRow b (cs.take o ++ vs ++ cs.drop (o + vs.length)).toArray := by
  induction vs generalizing w with
  | nil =>
    intro o cs hg hl
    rw [World.setCells]
    simp
    exact (setRow_self w b _ _ _ hg).symm
  | cons v r ih =>
    intro o cs hg hl
    rw [List.length_cons] at hl
    rw [World.setCells, setCell_rowT w b o cs v t hg, ih _ (o + 1) (cs.set o v) (by rw [setRow_heap w b _ _ _ _ hg]) (by rw [List.length_set]; omega), setRow_setRow]
    congr 2
    rw [List.take_add_one, List.take_set_of_le (Nat.le_refl _), List.getElem?_set_self (by omega), List.drop_set_of_lt (by omega)]
    simp
    rw [show o + 1 + r.length = o + (r.length + 1) from by omega]
/-- The boxes of the document's Block: the words that came in, the answer, the schedule, the constants, the words at work. -/
structure Rk (h p5 p6 p7 : Nat) (w W : World) (v0 : V8) (ws x : List B32) : Prop where
  hb : W.heap[h]? = some (.cells v0.cells 69 (0, 0))
  rb : W.heap[h + 1 + 1]? = some (.cells (V8.cells ⟨0, 0, 0, 0, 0, 0, 0, 0⟩) 69 (0, 0))
  wb : W.heap[p5]? = some (.cells (warr ws) 88 (0, 0))
  kb : W.heap[p6]? = some (.cells (warr K) 88 (0, 0))
  xb : W.heap[p7]? = some (.cells (warr x) 69 (0, 0))
  o5 : h + 1 + 1 < p5
  o6 : p5 < p6
  o7 : p6 < p7
  below : Below h w W
section
variable {h p5 p6 p7 : Nat} {w W W2 : World} {v0 : V8} {ws x : List B32}
theorem Rk.lt (k : Rk h p5 p6 p7 w W v0 ws x) : p7 < W.heap.size := (Array.getElem?_eq_some_iff.1 k.xb).1
theorem Rk.keep (k : Rk h p5 p6 p7 w W v0 ws x) (hb : Below W.heap.size W W2) : Rk h p5 p6 p7 w W2 v0 ws x := by
  have z := k.lt
  have z5 := k.o5
  have z6 := k.o6
  have z7 := k.o7
  exact ⟨(hb.block _ (by omega)).trans k.hb, (hb.block _ (by omega)).trans k.rb, (hb.block _ (by omega)).trans k.wb, (hb.block _ (by omega)).trans k.kb, (hb.block _ (by omega)).trans k.xb, z5, z6, z7, k.below.trans (hb.mono (by omega))⟩
theorem word_at {W : World} {p i : Nat} {l : List B32} {t : TypeId} (hb : W.heap[p]? = some (.cells (warr l) t (0, 0))) (hi : i < l.length) : W.cell? ⟨p, i, none⟩ = some (.int .u32 (U (l.getD i 0))) := by
  simp [World.cell?, hb, warr, List.getElem?_map, List.getElem?_eq_getElem hi, List.getD_eq_getElem?_getD, wcell]
theorem Rk.row (k : Rk h p5 p6 p7 w W v0 ws x) (y : List B32) : Rk h p5 p6 p7 w (W.setRow p7 (warr y)) v0 ws y := by
  have z := k.lt
  have z5 := k.o5
  have z6 := k.o6
  have z7 := k.o7
  exact ⟨(setRow_other _ _ _ _ (by omega)).trans k.hb, (setRow_other _ _ _ _ (by omega)).trans k.rb, (setRow_other _ _ _ _ (by omega)).trans k.wb, (setRow_other _ _ _ _ (by omega)).trans k.kb, setRow_heap _ _ _ _ _ _ k.xb, z5, z6, z7, below_setRow k.below (by omega) _⟩
theorem Rk.put (k : Rk h p5 p6 p7 w W v0 ws x) (y : V8) (hx : x.length = 8) : Rk h p5 p6 p7 w (W.setCells p7 0 y.cells.toList) v0 ws y.words := by
  have e := setCells_rowT W p7 y.cells.toList 69 0 (x.map wcell) k.xb (by rw [List.length_map, hx]; show 0 + 8 ≤ 8; omega)
  rw [e]
  have e2 : ((x.map wcell).take 0 ++ y.cells.toList ++ (x.map wcell).drop (0 + y.cells.toList.length)).toArray = warr y.words := by
    rw [List.take_zero, List.nil_append, List.drop_of_length_le (by rw [List.length_map, hx]; show 8 ≤ 0 + 8; omega), List.append_nil]
    rfl
  rw [e2]
  exact k.row _
theorem Rk.set (k : Rk h p5 p6 p7 w W v0 ws x) (i : Nat) (u : B32) : Rk h p5 p6 p7 w (W.setCell ⟨p7, i, none⟩ (.int .u32 (U u))) v0 ws (x.set i u) := by
  rw [setCell_rowT W p7 i (x.map wcell) _ 69 k.xb]
  have e : ((x.map wcell).set i (.int .u32 (U u))).toArray = warr (x.set i u) := by rw [warr, List.map_set]; rfl
  rw [e]
  exact k.row _
end
/-- The words at work, the first i of them summed with those that came in. -/
def mixw (v r : V8) (i : Nat) : List B32 := (vadd v r).words.take i ++ r.words.drop i
theorem mixw_len (v r : V8) (i : Nat) (h : i ≤ 8) : (mixw v r i).length = 8 := by
  have h1 : (vadd v r).words.length = 8 := rfl
  have h2 : r.words.length = 8 := rfl
  rw [mixw, List.length_append, List.length_take, List.length_drop, h1, h2]
  omega
theorem mixw_get (v r : V8) (i : Nat) (h : i < 8) : (mixw v r i).getD i 0 = r.words.getD i 0 := by
  match i, h with
  | 0, _ => rfl
  | 1, _ => rfl
  | 2, _ => rfl
  | 3, _ => rfl
  | 4, _ => rfl
  | 5, _ => rfl
  | 6, _ => rfl
  | 7, _ => rfl
theorem mixw_set (v r : V8) (i : Nat) (h : i < 8) : (mixw v r i).set i (r.words.getD i 0 + v.words.getD i 0) = mixw v r (i + 1) := by
  rw [BitVec.add_comm]
  match i, h with
  | 0, _ => rfl
  | 1, _ => rfl
  | 2, _ => rfl
  | 3, _ => rfl
  | 4, _ => rfl
  | 5, _ => rfl
  | 6, _ => rfl
  | 7, _ => rfl
attribute [local go_sem] U_xor U_and U_or U_add U_add' u32_signed u32_max
set_option maxRecDepth 100000 in
set_option maxHeartbeats 4000000 in
theorem rblock_calls (v : V8) (b : List UInt8) (hb : b.length = 64) (w : World) : Calls Tryd.prog 36 #[.agg v.cells, .agg (b.map bcell).toArray] w fun e w' => e = .returned (.agg (block v b).cells) ∧ Below w.heap.size w w' := by
  obtain ⟨bv, hbv⟩ : ∃ bv, block v b = bv := ⟨_, rfl⟩
  have HBV := Aside0.mk hbv
  rw [hbv]
  clear hbv
  have hu53 := Tryd.underlying49
  have hu85 := Tryd.underlying88
  have hu70 := Tryd.underlying69
  have HB := Aside0.mk hb
  have CW := Aside0.mk (fun W => words_calls b hb W)
  clear hb
  obtain ⟨W1, hW1⟩ : ∃ W1, ((w.alloc (.cells v.cells 69)).alloc (.cells (barr b) 49)).alloc (.cells (V8.cells ⟨0, 0, 0, 0, 0, 0, 0, 0⟩) 69) = W1 := ⟨_, rfl⟩
  have a1 : ∀ (W : World) (o : Obj), (W.alloc o).heap.size = W.heap.size + 1 := fun W o => Array.size_push _
  have a2 : ∀ (W : World) (o : Obj) (k : Nat), k < W.heap.size → (W.alloc o).heap[k]? = W.heap[k]? := fun W o k hk => ((Below.refl W.heap.size W).alloc (Nat.le_refl _) o).block k hk
  have a3 : ∀ (W : World) (o : Obj) (k : Nat), k = W.heap.size → (W.alloc o).heap[k]? = some o := fun W o k hk => by rw [hk]; exact World.alloc_heap_new W o
  have HB1 : Aside0 (Below w.heap.size w W1 ∧ W1.heap.size = w.heap.size + 1 + 1 + 1) := ⟨by rw [← hW1]; exact ⟨(((Below.refl _ w).alloc (Nat.le_refl _) _).alloc (by simp only [a1]; omega) _).alloc (by simp only [a1]; omega) _, by simp only [a1]⟩⟩
  have HX1 : Aside0 (W1.heap[w.heap.size]? = some (.cells v.cells 69 (0, 0)) ∧ W1.heap[w.heap.size + 1]? = some (.cells (barr b) 49 (0, 0)) ∧ W1.heap[w.heap.size + 1 + 1]? = some (.cells (V8.cells ⟨0, 0, 0, 0, 0, 0, 0, 0⟩) 69 (0, 0))) := ⟨by
    rw [← hW1]
    refine ⟨?_, ?_, ?_⟩
    · rw [a2 _ _ _ (by simp only [a1]; omega), a2 _ _ _ (by simp only [a1]; omega), a3 _ _ _ rfl]
    · rw [a2 _ _ _ (by simp only [a1]; omega), a3 _ _ _ (by simp only [a1])]
    · rw [a3 _ _ _ (by simp only [a1])]⟩
  have A3 := Aside0.mk a3
  clear a1 a2 a3
  go_enter Tryd.func36, Tryd.ntmps36
  go_upto_region 1 with fail
  change Code.wp _ _ _ _ (((w.alloc (.cells v.cells 69)).alloc (.cells (barr b) 49)).alloc (.cells (V8.cells ⟨0, 0, 0, 0, 0, 0, 0, 0⟩) 69))
  rw [hW1]
  clear hW1
  go_wp2_with (first
    | ((with_reducible refine gate_dst (N := 10) rfl ?_); refine wpList_load_mid rfl 49 (.tmp 3) rfl (w.heap.size + 1) 0 rfl (b.map bcell) _ (range_row HX1.out.2.1) Tryd.underlying49 rfl (by rw [List.length_map, HB.out]; kernel_rfl) ?_)
    | (go_at_call 43; ((with_reducible refine (CW.out W1).mono ?_)); rintro e w2 ⟨rfl, hb2⟩; have HB2 := Aside0.mk hb2; clear hb2)
    | ((with_reducible refine gate_store (t := 88) (p := 5) rfl ?_); refine wpList_store_row' rfl 88 (.tmp 5) (.tmp 11) rfl w2.heap.size 88 (warr (List.replicate 64 0)) (warr (sched b)) rfl rfl (World.alloc_heap_new w2 _) (by rw [warr, List.size_toArray, List.length_map, sched_len]; kernel_rfl) (by rw [warr, warr, List.size_toArray, List.size_toArray, List.length_map, List.length_map, sched_len]; rfl) (all_oneCell_toArray fun u hu => by obtain ⟨y, _, rfl⟩ := List.mem_map.1 hu; rfl) ?_; intro w3 hw3; have HB3 : Aside0 (Below w2.heap.size w2 w3 ∧ w3.heap[w2.heap.size]? = some (.cells (warr (sched b)) 88 (0, 0))) := ⟨by rw [hw3]; exact ⟨below_setRow ((Below.refl _ _).alloc (Nat.le_refl _) _) (Nat.le_refl _) _, setRow_heap _ _ _ _ _ _ (World.alloc_heap_new w2 _)⟩⟩; clear hw3)
    | (go_at_call 44; ((with_reducible refine (constants_calls w3).mono ?_)); rintro e w4 ⟨rfl, hb4⟩; have HB4 := Aside0.mk hb4; clear hb4)
    | ((with_reducible refine gate_store (t := 88) (p := 6) rfl ?_); refine wpList_store_row' rfl 88 (.tmp 6) (.tmp 12) rfl w4.heap.size 88 (warr (List.replicate 64 0)) (warr K) rfl rfl (World.alloc_heap_new w4 _) (by kernel_rfl) (by kernel_rfl) (by kernel_rfl) ?_; intro w5 hw5; have HB5 : Aside0 (Below w4.heap.size w4 w5 ∧ w5.heap[w4.heap.size]? = some (.cells (warr K) 88 (0, 0))) := ⟨by rw [hw5]; exact ⟨below_setRow ((Below.refl _ _).alloc (Nat.le_refl _) _) (Nat.le_refl _) _, setRow_heap _ _ _ _ _ _ (World.alloc_heap_new w4 _)⟩⟩; clear hw5; have HV5 : Aside0 (w5.heap[w.heap.size]? = some (.cells v.cells 69 (0, 0))) := ⟨by have z1 := HB1.out.2; have z2 := HB2.out.size; have z3 := HB3.out.1.size; have z4 := HB4.out.size; rw [HB5.out.1.block _ (by omega), HB4.out.block _ (by omega), HB3.out.1.block _ (by omega), HB2.out.block _ (by omega)]; exact HX1.out.1⟩)
    | ((with_reducible refine gate_dst (N := 13) rfl ?_); refine wpList_load_mid rfl 69 (.tmp 2) rfl w.heap.size 0 rfl (v.words.map wcell) _ (range_row HV5.out) Tryd.underlying69 rfl (by kernel_rfl) ?_)
    | ((with_reducible refine gate_store (t := 69) (p := 7) rfl ?_); refine wpList_store_row' rfl 69 (.tmp 7) (.tmp 13) rfl w5.heap.size 69 (V8.cells ⟨0, 0, 0, 0, 0, 0, 0, 0⟩) (warr v.words) rfl rfl (World.alloc_heap_new w5 _) (by kernel_rfl) (by kernel_rfl) (by kernel_rfl) ?_; intro w6 hw6; have HB6 : Aside0 (Below w5.heap.size w5 w6 ∧ w6.heap[w5.heap.size]? = some (.cells (warr v.words) 69 (0, 0))) := ⟨by rw [hw6]; exact ⟨below_setRow ((Below.refl _ _).alloc (Nat.le_refl _) _) (Nat.le_refl _) _, setRow_heap _ _ _ _ _ _ (World.alloc_heap_new w5 _)⟩⟩; clear hw6))
  have HK0 : Aside0 (Rk w.heap.size w2.heap.size w4.heap.size w5.heap.size w w6 v (sched b) v.words) := ⟨by
    have z1 := HB1.out.2
    have z2 := HB2.out.size
    have z3 := HB3.out.1.size
    have z4 := HB4.out.size
    have z5 := HB5.out.1.size
    have z6 := HB6.out.1.size
    have l3 := (Array.getElem?_eq_some_iff.1 HB3.out.2).1
    have l5 := (Array.getElem?_eq_some_iff.1 HB5.out.2).1
    refine ⟨?_, ?_, ?_, ?_, HB6.out.2, by omega, by omega, by omega, ?_⟩
    · rw [HB6.out.1.block _ (by omega)]; exact HV5.out
    · rw [HB6.out.1.block _ (by omega), HB5.out.1.block _ (by omega), HB4.out.block _ (by omega), HB3.out.1.block _ (by omega), HB2.out.block _ (by omega)]; exact HX1.out.2.2
    · rw [HB6.out.1.block _ (by omega), HB5.out.1.block _ (by omega), HB4.out.block _ (by omega)]; exact HB3.out.2
    · rw [HB6.out.1.block _ (by omega)]; exact HB5.out.2
    · exact HB1.out.1.trans ((HB2.out.mono (by omega)).trans ((HB3.out.1.mono (by omega)).trans ((HB4.out.mono (by omega)).trans ((HB5.out.1.mono (by omega)).trans (HB6.out.1.mono (by omega))))))⟩
  obtain ⟨ws, hws⟩ : ∃ ws, sched b = ws := ⟨_, rfl⟩
  have HWS := Aside0.mk hws
  have HWL := Aside0.mk (show ws.length = 64 from by rw [← hws]; exact sched_len b)
  rw [hws] at HK0
  generalize w2.heap.size = p5 at HK0 ⊢
  generalize w4.heap.size = p6 at HK0 ⊢
  generalize w5.heap.size = p7 at HK0 ⊢
  clear hws HB1 HB2 HB3 HB4 HB5 HB6 HV5 HX1
  go_loopg [8] 64 (fun g v8 wx => ∃ i : Nat, i + g = 64 ∧ v8 = .int .i64 (i : Int) ∧ Aside0 (Rk w.heap.size p5 p6 p7 w wx v ws (rounds ws v i).words))
  case atStart => exact ⟨0, by omega, rfl, HK0⟩
  case round =>
    clear HK0
    obtain ⟨i, hig, rfl, HK⟩ := hrel
    cases gk with
    | zero =>
      have hi64 : i = 64 := by omega
      subst hi64
      obtain ⟨r, hr⟩ : ∃ r, rounds ws v 64 = r := ⟨_, rfl⟩
      have HRR := Aside0.mk (show bv = vadd v r from by rw [← HBV.out]; unfold block; rw [HWS.out, hr])
      rw [hr] at HK
      have HK1 : Aside0 (Rk w.heap.size p5 p6 p7 w wr v ws (mixw v r 0)) := HK
      clear HK hr
      go_wp2
      go_loopg [9] 8 (fun g v9 wx => ∃ i : Nat, i + g = 8 ∧ v9 = .int .i64 (i : Int) ∧ Aside0 (Rk w.heap.size p5 p6 p7 w wx v ws (mixw v r i)))
      case atStart => exact ⟨0, by omega, rfl, HK1⟩
      case round =>
        clear HK1
        obtain ⟨i, hig, rfl, HK⟩ := hrel
        cases gk with
        | zero =>
          have hi8 : i = 8 := by omega
          subst hi8
          have HK2 : Aside0 (Rk w.heap.size p5 p6 p7 w wr v ws bv.words) := ⟨by
            rw [HRR.out]
            exact HK.out⟩
          clear HK
          go_wp2_with (first
            | ((with_reducible refine gate_dst (N := 39) rfl ?_); refine wpList_load_mid rfl 69 (.tmp 7) rfl p7 0 rfl (bv.words.map wcell) _ (range_row HK2.out.xb) Tryd.underlying69 rfl (by kernel_rfl) ?_)
            | ((with_reducible refine gate_store (t := 69) (p := 4) rfl ?_); refine wpList_store_row' rfl 69 (.tmp 4) (.tmp 39) rfl (w.heap.size + 1 + 1) 69 (V8.cells ⟨0, 0, 0, 0, 0, 0, 0, 0⟩) (warr bv.words) rfl rfl HK2.out.rb (by kernel_rfl) (by kernel_rfl) (by kernel_rfl) ?_; intro w9 hw9; have HX9 : Aside0 (w9.heap[w.heap.size + 1 + 1]? = some (.cells (warr bv.words) 69 (0, 0))) := ⟨by rw [hw9]; exact setRow_heap _ _ _ _ _ _ HK2.out.rb⟩; have HB9 : Aside0 (Below w.heap.size w w9) := ⟨by rw [hw9]; exact below_setRow HK2.out.below (by omega) _⟩; clear hw9))
          exact bodyPost_ret (v := .agg bv.cells) (results_cell_row rfl _ _ (w.heap.size + 1 + 1) 69 bv.cells (0, 0) _ rfl HX9.out Tryd.underlying69 rfl (by kernel_rfl)) rfl ⟨rfl, HB9.out⟩
        | succ k1 =>
          have hi : i < 8 := by omega
          have d1 : decide ((i : Int) < 8) = true := decide_eq_true (by omega)
          have p9 : (0 ≤ (i : Int)) = True := eq_true (by omega)
          have q9 : ((i : Int) < 8) = True := eq_true (by omega)
          have HI := Aside0.mk hi
          go_wp2
          refine wp_region_still_tail 8 (by kernel_rfl) (by kernel_rfl) ?_
          change wpStill _ _ (World.drew wr) (fun a' => wpList _ _ _ _ a' (World.drew wr)) _ _
          have HK2 := Aside0.mk (HK.out.keep (below_drew (Below.refl _ wr)))
          generalize World.drew wr = w2_ at HK2 ⊢
          have y1 := word_at (i := i) HK2.out.xb (by rw [mixw_len _ _ _ (by omega)]; exact hi)
          rw [mixw_get v r i hi] at y1
          have y2 := word_at (i := i) (l := v.words) (show w2_.heap[w.heap.size]? = some (.cells (warr v.words) 69 (0, 0)) from HK2.out.hb) hi
          have y5 := fro_of HK2.out.xb i
          clear HK hi
          simp only [List.take_succ_cons, List.take_zero, List.drop_succ_cons, List.drop_zero]
          repeat still_step
          refine wpStill_nil ?_
          change wpList _ _ _ _ _ w2_
          go_wp2
          go_roundg k1
          case measure => omega
          case rel =>
            refine ⟨i + 1, by omega, by go_num, ⟨?_⟩⟩
            rw [← mixw_set v r i HI.out]
            exact HK2.out.set i _
    | succ k1 =>
      have hi : i < 64 := by omega
      have d1 : decide ((i : Int) < 64) = true := decide_eq_true (by omega)
      have p9 : (0 ≤ (i : Int)) = True := eq_true (by omega)
      have q9 : ((i : Int) < 64) = True := eq_true (by omega)
      obtain ⟨x, hx⟩ : ∃ x, rounds ws v i = x := ⟨_, rfl⟩
      obtain ⟨ci, hci⟩ : ∃ x, K.getD i 0 = x := ⟨_, rfl⟩
      obtain ⟨wi, hwi⟩ : ∃ x, ws.getD i 0 = x := ⟨_, rfl⟩
      have HNX := Aside0.mk (show rounds ws v (i + 1) = stepV x (ci + wi) from by rw [rounds, hx, hci, hwi, step_round])
      rw [hx] at HK
      go_wp2
      have HK2 := Aside0.mk (HK.out.keep (below_drew (Below.refl _ wr)))
      have g1 := word_at (i := i) HK2.out.kb hi
      have g2 := word_at (i := i) HK2.out.wb (by rw [HWL.out]; exact hi)
      rw [hci] at g1
      rw [hwi] at g2
      have HELD := Aside0.mk (show wr.drew.rangeAt p7 0 (x.words.map wcell) ∧ wr.drew.cell? ⟨p6, i, none⟩ = some (.int .u32 (U ci)) ∧ wr.drew.cell? ⟨p5, i, none⟩ = some (.int .u32 (U wi)) from ⟨range_row HK2.out.xb, g1, g2⟩)
      have HC := Aside0.mk (show Calls Tryd.prog 45 #[.agg (x.words.map wcell).toArray, .int .u32 (U (ci + wi))] wr.drew fun e w' => e = .returned (.agg (stepV x (ci + wi)).cells) ∧ Below wr.drew.heap.size wr.drew w' from step_calls x (ci + wi) wr.drew)
      obtain ⟨y, hy⟩ : ∃ y, stepV x (ci + wi) = y := ⟨_, rfl⟩
      rw [hy] at HC HNX
      clear g1 g2 hx hci hwi HK hy hi
      refine wp_region_but 9 (fun W => W.rangeAt p7 0 (x.words.map wcell) ∧ W.cell? ⟨p6, i, none⟩ = some (.int .u32 (U ci)) ∧ W.cell? ⟨p5, i, none⟩ = some (.int .u32 (U wi))) (by kernel_rfl) ?_
      refine wpAnyB_load (i := 0) rfl (by kernel_rfl) (by kernel_rfl) (by kernel_rfl) (by decide) (by kernel_rfl) (by kernel_rfl) (fun _ _ _ h => h) (yieldsIf_load_mid (by kernel_rfl) 69 (.tmp 7) rfl p7 0 rfl (x.words.map wcell) _ (fun w h => h.1) Tryd.underlying69 rfl (by kernel_rfl)) HELD.out ?_
      try simp only [Act.put, List.setIfInBounds_toArray, List.set_cons_zero, List.set_cons_succ]
      refine wpAnyB_take (i := 1) rfl (by kernel_rfl) (by kernel_rfl) (by kernel_rfl) (by decide) (fun _ _ _ h => h) (Or.inl ⟨by kernel_rfl, fun w _ => by go_simp <;> with_reducible rfl⟩) (fun _ => HELD.out) ?_
      try simp only [Act.put, List.setIfInBounds_toArray, List.set_cons_zero, List.set_cons_succ]
      refine wpAnyB_take (i := 2) rfl (by kernel_rfl) (by kernel_rfl) (by kernel_rfl) (by decide) (fun _ _ _ h => h) (Or.inl ⟨by kernel_rfl, fun w _ => by go_simp <;> with_reducible rfl⟩) (fun _ => HELD.out) ?_
      try simp only [Act.put, List.setIfInBounds_toArray, List.set_cons_zero, List.set_cons_succ]
      refine wpAnyB_load (i := 3) rfl (by kernel_rfl) (by kernel_rfl) (by kernel_rfl) (by decide) (by kernel_rfl) (by kernel_rfl) (fun _ _ _ h => h) (Or.inl ⟨by kernel_rfl, fun w hS => by obtain ⟨_, c1, c2⟩ := hS; go_simp <;> with_reducible rfl⟩) HELD.out ?_
      try simp only [Act.put, List.setIfInBounds_toArray, List.set_cons_zero, List.set_cons_succ]
      refine wpAnyB_take (i := 4) rfl (by kernel_rfl) (by kernel_rfl) (by kernel_rfl) (by decide) (fun _ _ _ h => h) (Or.inl ⟨by kernel_rfl, fun w _ => by go_simp <;> with_reducible rfl⟩) (fun _ => HELD.out) ?_
      try simp only [Act.put, List.setIfInBounds_toArray, List.set_cons_zero, List.set_cons_succ]
      refine wpAnyB_take (i := 5) rfl (by kernel_rfl) (by kernel_rfl) (by kernel_rfl) (by decide) (fun _ _ _ h => h) (Or.inl ⟨by kernel_rfl, fun w _ => by go_simp <;> with_reducible rfl⟩) (fun _ => HELD.out) ?_
      try simp only [Act.put, List.setIfInBounds_toArray, List.set_cons_zero, List.set_cons_succ]
      refine wpAnyB_load (i := 6) rfl (by kernel_rfl) (by kernel_rfl) (by kernel_rfl) (by decide) (by kernel_rfl) (by kernel_rfl) (fun _ _ _ h => h) (Or.inl ⟨by kernel_rfl, fun w hS => by obtain ⟨_, c1, c2⟩ := hS; go_simp <;> with_reducible rfl⟩) HELD.out ?_
      try simp only [Act.put, List.setIfInBounds_toArray, List.set_cons_zero, List.set_cons_succ]
      refine wpAnyB_take (i := 7) rfl (by kernel_rfl) (by kernel_rfl) (by kernel_rfl) (by decide) (fun _ _ _ h => h) (Or.inl ⟨by kernel_rfl, fun w _ => by go_simp <;> with_reducible rfl⟩) (fun _ => HELD.out) ?_
      try simp only [Act.put, List.setIfInBounds_toArray, List.set_cons_zero, List.set_cons_succ]
      refine wpAnyB_one (i := 8) rfl (by kernel_rfl) (fun K9 hK => ?_)
      rw [if_pos (by kernel_rfl)]
      go_simp
      with_reducible refine HC.out.mono ?_
      rintro e w4_ ⟨rfl, hb4⟩
      have HK4 := Aside0.mk (HK2.out.keep hb4)
      have HELD4 := Aside0.mk (show w4_.rangeAt p7 0 (x.words.map wcell) ∧ w4_.cell? ⟨p6, i, none⟩ = some (.int .u32 (U ci)) ∧ w4_.cell? ⟨p5, i, none⟩ = some (.int .u32 (U wi)) from ⟨range_row HK4.out.xb, by
        have z := HK2.out.lt; have z7 := HK2.out.o7; unfold World.cell?; rw [hb4.block _ (by show p6 < _; omega)]; exact HELD.out.2.1, by
        have z := HK2.out.lt; have z7 := HK2.out.o7; have z6 := HK2.out.o6; unfold World.cell?; rw [hb4.block _ (by show p5 < _; omega)]; exact HELD.out.2.2⟩)
      refine hK _ _ (fun _ => HELD4.out) ?_
      clear hK K9 HELD HC hb4
      try simp only [Act.put, List.setIfInBounds_toArray, List.set_cons_zero, List.set_cons_succ]
      refine wpAnyB_one (i := 9) rfl (by kernel_rfl) (fun K9 hK => ?_)
      rw [if_pos (by kernel_rfl)]
      refine wp_store_mid 69 (.tmp 7) (.tmp 26) rfl p7 0 y.cells rfl rfl (fun j hj => ⟨HELD4.out.1.isSome j hj, fro_of HK4.out.xb _⟩) (by kernel_rfl) (by kernel_rfl) ?_
      refine hK _ _ (fun h => Bool.noConfusion (h.symm.trans (show _ = true by kernel_rfl))) ?_
      have HK5 := Aside0.mk (HK4.out.put y rfl)
      generalize w4_.setCells p7 0 y.cells.toList = w5_ at HK5 ⊢
      refine wpAnyB_done (by kernel_rfl) ?_ _
      clear hK K9 HELD4 HK4 HK2
      try simp only [Act.put, List.setIfInBounds_toArray, List.set_cons_zero, List.set_cons_succ]
      go_wp2
      go_roundg k1
      case measure => omega
      case rel =>
        refine ⟨i + 1, by omega, by go_num, ⟨?_⟩⟩
        rw [HNX.out]
        exact HK5.out
end Go.Proofs.YtdjhhljijpadoaaDoor.Sha
