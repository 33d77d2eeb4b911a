/- SHA-256: Sum, Of. -/
import Derived.Test.YtdjhhljijpadoaaDoorShaWrite
namespace Go.Proofs.YtdjhhljijpadoaaDoor.Sha
open Go.RowKit Go.Proofs.YtdjhhljijpadoaaDoorW.PrintWords Go.Proofs.YtdjhhljijpadoaaDoorW.PrintLast Go.Proofs.YtdjhhljijpadoaaDoorW.PrintMore Go.Proofs.YtdjhhljijpadoaaDoor.Bytes
set_option linter.unusedVariables false
set_option linter.unusedSimpArgs false

/-- A word out of eight. -/
theorem idx8 (v : V8) (i : Nat) (hi : i < 8) (W : World) : (Instr.index 69 (.agg v.cells) (.int .i64 (i : Int))).run Tryd.prog W = .ok (.int .u32 (U (v.words.getD i 0))) W := by
  have h0 : (Instr.index 69 (.agg v.cells) (.int .i64 0)).run Tryd.prog W = .ok (.int .u32 (U v.a)) W := by kernel_rfl
  have h1 : (Instr.index 69 (.agg v.cells) (.int .i64 1)).run Tryd.prog W = .ok (.int .u32 (U v.b)) W := by kernel_rfl
  have h2 : (Instr.index 69 (.agg v.cells) (.int .i64 2)).run Tryd.prog W = .ok (.int .u32 (U v.c)) W := by kernel_rfl
  have h3 : (Instr.index 69 (.agg v.cells) (.int .i64 3)).run Tryd.prog W = .ok (.int .u32 (U v.d)) W := by kernel_rfl
  have h4 : (Instr.index 69 (.agg v.cells) (.int .i64 4)).run Tryd.prog W = .ok (.int .u32 (U v.e)) W := by kernel_rfl
  have h5 : (Instr.index 69 (.agg v.cells) (.int .i64 5)).run Tryd.prog W = .ok (.int .u32 (U v.f)) W := by kernel_rfl
  have h6 : (Instr.index 69 (.agg v.cells) (.int .i64 6)).run Tryd.prog W = .ok (.int .u32 (U v.g)) W := by kernel_rfl
  have h7 : (Instr.index 69 (.agg v.cells) (.int .i64 7)).run Tryd.prog W = .ok (.int .u32 (U v.k)) W := by kernel_rfl
  match i, hi with
  | 0, _ => exact h0
  | 1, _ => exact h1
  | 2, _ => exact h2
  | 3, _ => exact h3
  | 4, _ => exact h4
  | 5, _ => exact h5
  | 6, _ => exact h6
  | 7, _ => exact h7
theorem bset {w : World} {g : Nat} {l : List UInt8} {t : TypeId} (h : w.heap[g]? = some (.cells (l.map bcell).toArray t (0, 0))) (i : Nat) (x : UInt8) : (w.setCell ⟨g, i, none⟩ (.int .u8 (B x))).heap[g]? = some (.cells ((l.set i x).map bcell).toArray t (0, 0)) := by
  simp [World.setCell, Array.getElem?_modify, h, List.map_set, bcell]
attribute [local go_sem] U_shr8 U_shr16 U_shr24 U_byte U_byte' u32_signed u32_max
/-- What Pad is said to do. -/
def PadCalls : Prop := ∀ (n : Nat) (w : World), n < 1152921504606846976 → Calls Tryd.prog 33 #[.int .i64 (n : Int)] w fun e w' => e = .returned (.string ⟨(pad n).toArray⟩) ∧ Below w.heap.size w w'
theorem range_row {w : World} {b : Nat} {cs : List Value} {t : TypeId} {fr : Nat × Nat} (h : w.heap[b]? = some (.cells cs.toArray t fr)) : w.rangeAt b 0 cs := fun j v hv => by
  simp only [World.cell?, h, Nat.zero_add, List.getElem?_toArray]
  exact hv
theorem below_setRow {B g : Nat} {w0 w : World} (hb : Below B w0 w) (hBg : B ≤ g) (cs : Array Value) : Below B w0 (w.setRow g cs) :=
  hb.trans ⟨rfl, rfl, rfl, by simp [World.setRow], fun k hk => setRow_other w g k cs (by omega)⟩
theorem wpList_store_row' {P : Program} {w : World} {a : Act} {ops : Array Oper} {rest : List Oper} {op : Oper} {Q : Exit → Act → World → Prop} (hgd : op.guard = none) (ty : TypeId) (x y : Operand) (ho : op.op = .store ty x y)
    (b : Nat) (t : TypeId) (old cells : Array Value) (hx : a.eval x = .pointer (some ⟨b, 0, none⟩)) (hy : a.eval y = .agg cells)
    (hg : w.heap[b]? = some (.cells old t (0, 0))) (hi : (P.info? ty).map (·.size) = some cells.size) (hs : old.size = cells.size) (h1 : cells.all (·.oneCell') = true)
    (h : ∀ w', w' = w.setRow b cells → wpList P ops Q rest (a.put op.dst undef) w') : wpList P ops Q (op :: rest) a w :=
  wpList_store_row hgd ty x y ho b t old cells hx hy hg hi hs h1 (h _ rfl)
theorem cells_one (s : Sd) : s.cells.toArray.all (·.oneCell') = true := by
  refine all_oneCell_toArray fun v hv => ?_
  unfold Sd.cells at hv
  rw [List.mem_cons, List.mem_append, List.mem_append] at hv
  rcases hv with rfl | hv | hv | hv
  · rfl
  · simp [V8.cells, wcell] at hv
    rcases hv with rfl | rfl | rfl | rfl | rfl | rfl | rfl | rfl <;> rfl
  · obtain ⟨x, _, rfl⟩ := List.mem_map.1 hv
    rfl
  · rw [List.mem_singleton] at hv
    subst hv
    rfl
/-- The first words' bytes, and noughts. -/
def dig (ws : List B32) (i : Nat) : List UInt8 := (ws.take i).flatMap bytes4 ++ List.replicate (32 - 4 * i) 0
theorem flat_len : ∀ (ws : List B32), (ws.flatMap bytes4).length = 4 * ws.length
  | [] => rfl
  | a :: l => by
    rw [List.flatMap_cons, List.length_append, flat_len l, List.length_cons]
    show 4 + _ = _
    omega
theorem dig_next (ws : List B32) (i : Nat) (hi : i < 8) (hw : ws.length = 8) : dig ws (i + 1) = ((((dig ws i).set (4 * i) ((ws.getD i 0) >>> (24 : Nat)).toNat.toUInt8).set (4 * i + 1) ((ws.getD i 0) >>> (16 : Nat)).toNat.toUInt8).set (4 * i + 2) ((ws.getD i 0) >>> (8 : Nat)).toNat.toUInt8).set (4 * i + 3) (ws.getD i 0).toNat.toUInt8 := by
  obtain ⟨m, hm⟩ : ∃ m, 32 - 4 * i = m + 4 := ⟨28 - 4 * i, by omega⟩
  have hm2 : 32 - 4 * (i + 1) = m := by omega
  have hl : ((ws.take i).flatMap bytes4).length = 4 * i := by rw [flat_len, List.length_take]; omega
  have ht : ws.take (i + 1) = ws.take i ++ [ws.getD i 0] := by
    have hi' : i < ws.length := by omega
    rw [List.take_add_one, List.getElem?_eq_getElem hi', List.getD_eq_getElem?_getD, List.getElem?_eq_getElem hi']
    rfl
  unfold dig
  rw [ht, hm, hm2, List.flatMap_append]
  generalize (ws.take i).flatMap bytes4 = A at hl
  rw [← hl]
  rw [List.set_append_right _ _ (Nat.le_refl _), List.set_append_right _ _ (by omega), List.set_append_right _ _ (by omega), List.set_append_right _ _ (by omega)]
  simp only [Nat.sub_self, Nat.add_sub_cancel_left, List.replicate_succ, List.set_cons_zero, List.set_cons_succ]
  simp [bytes4]
theorem dig_len (ws : List B32) (i : Nat) (hi : i ≤ 8) (hw : ws.length = 8) : (dig ws i).length = 32 := by
  unfold dig
  rw [List.length_append, flat_len, List.length_take, List.length_replicate]
  omega
theorem dig_end (v : V8) : dig v.words 8 = digest v := by
  show (v.words.take 8).flatMap bytes4 ++ [] = _
  rw [List.append_nil]
  rfl
theorem holds_end {s : Sd} {l : List UInt8} (h : s.Holds l) (hl : l.length % 64 = 0) : s.h = blocks H0 l := by
  obtain ⟨a, r, rfl, ha, hr, hh, _, _, _, _⟩ := h
  rw [List.length_append] at hl
  have : r = [] := List.eq_nil_of_length_eq_zero (by omega)
  rw [this, List.append_nil]
  exact hh
set_option maxRecDepth 100000 in
set_option maxHeartbeats 4000000 in
theorem sum_calls (hP : PadCalls) (s : Sd) (l : List UInt8) (b : Nat) (w : World) (hs : s.At w b) (hl : s.Holds l) (hG : Glob w) (hn : l.length < 1152921504606846976) : Calls Tryd.prog 23 #[.pointer (some ⟨b, 0, none⟩)] w fun e w' => e = .returned (.agg ((of l).map bcell).toArray) ∧ Below w.heap.size w w' := by
  unfold PadCalls at hP
  have HR28 : Aside0 ((Tryd.prog.info? 29).map (·.size) = some 32) := ⟨by kernel_rfl⟩
  have HR78 : Aside0 ((Tryd.prog.info? 71).map (·.size) = some 74) := ⟨by kernel_rfl⟩
  have HSZ := Aside0.mk (s.cells_len hs.len)
  have HG := Aside0.mk hG
  have hsn : s.n = l.length := by
    obtain ⟨a, r, _, _, hr, _, hn, hu, _⟩ := hl
    exact hn
  have HL := Aside0.mk hl
  have HP := Aside0.mk hP
  have a1 : ∀ (W : World) (o : Obj), (W.alloc o).heap.size = W.heap.size + 1 := fun W o => Array.size_push _
  have HB1 := Aside0.mk ((Below.refl w.heap.size w).alloc (Nat.le_refl _) (.cells (List.replicate 32 (Value.int .u8 0)).toArray 29))
  have HS1 := Aside0.mk (hs.keep HB1.out)
  have HB2 := Aside0.mk (HB1.out.alloc (by rw [a1]; omega) (.cells Tryd.zeroCells71 71))
  have HX2 : Aside0 (((w.alloc (.cells (List.replicate 32 (Value.int .u8 0)).toArray 29)).alloc (.cells Tryd.zeroCells71 71)).heap[w.heap.size + 1]? = some (.cells Tryd.zeroCells71 71 (0, 0))) := ⟨by have := World.alloc_heap_new (w.alloc (.cells (List.replicate 32 (Value.int .u8 0)).toArray 29)) (.cells Tryd.zeroCells71 71); rw [a1] at this; exact this⟩
  have HX1 : Aside0 (((w.alloc (.cells (List.replicate 32 (Value.int .u8 0)).toArray 29)).alloc (.cells Tryd.zeroCells71 71)).heap[w.heap.size]? = some (.cells (List.replicate 32 (Value.int .u8 0)).toArray 29 (0, 0))) := ⟨by rw [((Below.refl (w.heap.size + 1) (w.alloc (.cells (List.replicate 32 (Value.int .u8 0)).toArray 29))).alloc (by rw [a1]; omega) (.cells Tryd.zeroCells71 71)).block _ (by omega), World.alloc_heap_new]⟩
  have HZ78 : Aside0 (Tryd.zeroCells71.size = s.cells.toArray.size) := ⟨by rw [show s.cells.toArray.size = 74 from by rw [List.size_toArray, HSZ.out]]; kernel_rfl⟩
  have HLEN := Aside0.mk hs.len
  have HW := Aside0.mk (fun (w4 : World) (hA : s.At w4 (w.heap.size + 1)) (hB : Below w.heap.size w w4) => writeText_calls s l (w.heap.size + 1) ⟨(pad l.length).toArray⟩ w4 hA hl (hG.below hB hG.lt) (by have := hG.lt; omega) (by have := pad_len l.length; show l.length + (pad l.length).length < _; omega))
  clear hs hG hl hP a1
  go_enter Tryd.func23, Tryd.ntmps23
  go_wp2_with (first
    | ((with_reducible refine gate_dst (N := 9) rfl ?_); refine wpList_load_mid rfl 71 (.tmp 8) rfl b 0 rfl s.cells _ (range_row HS1.out.lies) Tryd.underlying71 rfl (by rw [HSZ.out]; exact HR78.out) ?_) | ((with_reducible refine gate_store (t := 71) (p := 3) rfl ?_); refine wpList_store_row' rfl 71 (.tmp 3) (.tmp 9) rfl (w.heap.size + 1) 71 Tryd.zeroCells71 s.cells.toArray (by first | rfl | simp [Act.eval]) rfl HX2.out (by rw [List.size_toArray, HSZ.out]; exact HR78.out) HZ78.out (cells_one s) ?_; intro w3 hw3; have HT3 : Aside0 (s.At w3 (w.heap.size + 1)) := ⟨by rw [hw3]; exact ⟨setRow_heap _ _ _ _ _ _ HX2.out, HLEN.out⟩⟩; have HB3 : Aside0 (Below w.heap.size w w3) := ⟨by rw [hw3]; exact below_setRow HB2.out (by omega) _⟩; have HX3 : Aside0 (w3.heap[w.heap.size]? = some (.cells (List.replicate 32 (Value.int .u8 0)).toArray 29 (0, 0))) := ⟨by rw [hw3]; exact (setRow_other _ _ _ _ (by omega)).trans HX1.out⟩; have c3 := HT3.out.count; rw [hsn] at c3; clear hw3 HB1 HB2 HS1 HX1 HX2)
    | (go_at_call 33; ((with_reducible refine (HP.out l.length w3 hn).mono ?_)); rintro e w4 ⟨rfl, hb4⟩; have HT4 := Aside0.mk (HT3.out.keep hb4); have HB4 := Aside0.mk (HB3.out.trans (hb4.mono HB3.out.size)); have HX4 := Aside0.mk ((hb4.block _ (by have := (Array.getElem?_eq_some_iff.1 HX3.out).1; exact this)).trans HX3.out); clear hb4 HT3 HB3 HX3 c3)
    | (go_at_call 22; ((with_reducible refine (HW.out w4 HT4.out HB4.out).mono ?_)); rintro e w5 ⟨rfl, s5, hT5, hH5⟩; have HT5 := Aside0.mk hT5.1; have HH5 := Aside0.mk hH5; have HB5 := Aside0.mk (below_of_grown HB4.out hT5.2 (by omega) HB4.out.size); have HX5 := Aside0.mk ((hT5.2.block _ (by have := (Array.getElem?_eq_some_iff.1 HX4.out).1; exact this) (by intro e; injection e; omega)).trans HX4.out); clear hT5 hH5 HT4 HB4 HX4)
    | ((with_reducible refine gate_dst (N := 16) rfl ?_); refine wpList_load_mid rfl 69 (.tmp 15) rfl (w.heap.size + 1) 1 rfl s5.h.cells.toList _ (World.rangeAt_alloc HT5.out.words _) Tryd.underlying69 rfl (by kernel_rfl) ?_))
  obtain ⟨v, hv⟩ : ∃ v, s5.h = v := ⟨_, rfl⟩
  have HV := Aside0.mk hv
  rw [hv]
  clear hv
  have HD : Aside0 ((w5.alloc (.cells (List.replicate 32 (Value.int .u8 0)).toArray 29)).heap[w5.heap.size]? = some (.cells ((dig v.words 0).map bcell).toArray 29 (0, 0))) := ⟨by rw [World.alloc_heap_new]; rfl⟩
  have HB6 := Aside0.mk (HB5.out.alloc HB5.out.size (.cells (List.replicate 32 (Value.int .u8 0)).toArray 29))
  have HX6 : Aside0 ((w5.alloc (.cells (List.replicate 32 (Value.int .u8 0)).toArray 29)).heap[w.heap.size]? = some (.cells (List.replicate 32 (Value.int .u8 0)).toArray 29 (0, 0))) := ⟨(((Below.refl w5.heap.size w5).alloc (Nat.le_refl _) _).block _ (by have := (Array.getElem?_eq_some_iff.1 HX5.out).1; exact this)).trans HX5.out⟩
  have HLT : Aside0 (w.heap.size < w5.heap.size) := ⟨(Array.getElem?_eq_some_iff.1 HX5.out).1⟩
  obtain ⟨gd, hgd⟩ : ∃ gd, w5.heap.size = gd := ⟨_, rfl⟩
  rw [hgd] at HD HLT
  rw [hgd]
  go_loopg [17] 8 (fun g v17 wx => ∃ i : Nat, i + g = 8 ∧ v17 = .int .i64 (i : Int) ∧ Aside0 (wx.heap[gd]? = some (.cells ((dig v.words i).map bcell).toArray 29 (0, 0))) ∧ Aside0 (Below w.heap.size w wx) ∧ Aside0 (wx.heap[w.heap.size]? = some (.cells (List.replicate 32 (Value.int .u8 0)).toArray 29 (0, 0))))
  case atStart => exact ⟨0, by omega, rfl, HD, HB6, HX6⟩
  case round =>
    clear HD HB6 HX6
    obtain ⟨i, hig, rfl, HD, HB, HX⟩ := hrel
    cases gk with
    | zero =>
      obtain rfl : i = 8 := by omega
      rw [dig_end] at HD
      have HDL := Aside0.mk (show (digest v).length = 32 from rfl)
      go_wp2_with (first
        | ((with_reducible refine gate_dst (N := 48) rfl ?_); refine wpList_load_mid rfl 29 (.tmp 4) rfl gd 0 rfl ((digest v).map bcell) _ (range_row HD.out) Tryd.underlying29 rfl (by rw [List.length_map, HDL.out]; exact HR28.out) ?_)
        | ((with_reducible refine gate_store (t := 29) (p := 2) rfl ?_); refine wpList_store_row' rfl 29 (.tmp 2) (.tmp 48) rfl w.heap.size 29 _ ((digest v).map bcell).toArray rfl rfl HX.out (by rw [List.size_toArray, List.length_map, HDL.out]; exact HR28.out) (by rw [List.size_toArray, List.size_toArray, List.length_map, HDL.out]; rfl) (all_oneCell_toArray fun u hu => by obtain ⟨y, _, rfl⟩ := List.mem_map.1 hu; rfl) ?_; intro w9 hw9; have HX9 : Aside0 (w9.heap[w.heap.size]? = some (.cells ((digest v).map bcell).toArray 29 (0, 0))) := ⟨by rw [hw9]; exact setRow_heap _ _ _ _ _ _ HX.out⟩; have HB9 : Aside0 (Below w.heap.size w w9) := ⟨by rw [hw9]; exact below_setRow HB.out (Nat.le_refl _) _⟩; clear hw9))
      have hfin : digest v = of l := by
        rw [← HV.out, holds_end HH5.out (by rw [List.length_append]; exact pad_whole l.length)]
        rfl
      refine bodyPost_ret (v := .agg ((of l).map bcell).toArray) (results_cell_row rfl _ _ w.heap.size 29 ((of l).map bcell).toArray (0, 0) _ rfl ?_ Tryd.underlying29 rfl (by rw [List.size_toArray, List.length_map, of_len]; exact HR28.out)) rfl ⟨rfl, HB9.out⟩
      rw [← hfin]
      exact HX9.out
    | succ k1 =>
      have d1 : decide ((i : Int) < 8) = true := decide_eq_true (by omega)
      have hi : i < 8 := by omega
      have hidx := idx8 v i hi wr
      obtain ⟨x, hx⟩ : ∃ x, v.words.getD i 0 = x := ⟨_, rfl⟩
      have HN := Aside0.mk (dig_next v.words i hi rfl)
      rw [hx] at hidx HN
      have hdl := dig_len v.words i (by omega) rfl
      have e0 : (4 * (i : Int)).toNat = 4 * i := by omega
      have e1 : (4 * (i : Int) + 1).toNat = 4 * i + 1 := by omega
      have e2 : (4 * (i : Int) + 2).toNat = 4 * i + 2 := by omega
      have e3 : (4 * (i : Int) + 3).toNat = 4 * i + 3 := by omega
      have p0 : (0 ≤ 4 * (i : Int)) = True := eq_true (by omega)
      have p1 : (0 ≤ 4 * (i : Int) + 1) = True := eq_true (by omega)
      have p2 : (0 ≤ 4 * (i : Int) + 2) = True := eq_true (by omega)
      have p3 : (0 ≤ 4 * (i : Int) + 3) = True := eq_true (by omega)
      have q0 : (4 * (i : Int) < 32) = True := eq_true (by omega)
      have q1 : (4 * (i : Int) + 1 < 32) = True := eq_true (by omega)
      have q2 : (4 * (i : Int) + 2 < 32) = True := eq_true (by omega)
      have q3 : (4 * (i : Int) + 3 < 32) = True := eq_true (by omega)
      have wr_ : ∀ x : Int, 0 ≤ x → x < 1000 → IntKind.i64.wrap x = x := fun x h0 h1 => by rw [IntKind.wrap_i64]; omega
      have m0 := wr_ (4 * (i : Int)) (by omega) (by omega)
      have m1 := wr_ (4 * (i : Int) + 1) (by omega) (by omega)
      have m2 := wr_ (4 * (i : Int) + 2) (by omega) (by omega)
      have m3 := wr_ (4 * (i : Int) + 3) (by omega) (by omega)
      have hcell : ∀ j, j < 32 → ∃ u, wr.cell? ⟨gd, j, none⟩ = some u := fun j hj => by
        simp only [World.cell?, HD.out, List.getElem?_toArray]
        exact ⟨_, List.getElem?_eq_getElem (by rw [List.length_map, hdl]; exact hj)⟩
      obtain ⟨u0_, y0⟩ := hcell (4 * i) (by omega)
      obtain ⟨u1_, y1⟩ := hcell (4 * i + 1) (by omega)
      obtain ⟨u2_, y2⟩ := hcell (4 * i + 2) (by omega)
      obtain ⟨u3_, y3⟩ := hcell (4 * i + 3) (by omega)
      have fz : ∀ j, wr.frozen? ⟨gd, j, none⟩ = false := fun j => by simp [World.frozen?, HD.out]
      clear wr_ hx hi hcell hdl
      go_wp2
      go_roundg k1
      case measure => omega
      case rel =>
        refine ⟨i + 1, by omega, by go_num, ⟨?_⟩, ⟨?_⟩, ⟨?_⟩⟩
        · rw [HN.out]
          exact bset (bset (bset (bset HD.out _ _) _ _) _ _) _ _
        · have := HLT.out
          exact below_set (below_set (below_set (below_set HB.out _ _ (by show _ ≤ gd; omega)) _ _ (by show _ ≤ gd; omega)) _ _ (by show _ ≤ gd; omega)) _ _ (by show _ ≤ gd; omega)
        · have hne : w.heap.size ≠ gd := by have := HLT.out; omega
          exact (((((Below.heap_setCell _ _ _ _ hne).trans (Below.heap_setCell _ _ _ _ hne)).trans (Below.heap_setCell _ _ _ _ hne)).trans (Below.heap_setCell _ _ _ _ hne))).trans HX.out
end Go.Proofs.YtdjhhljijpadoaaDoor.Sha
