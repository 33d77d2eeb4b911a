/- SHA-256: the state's cells; Reset, New. -/
import Derived.Test.YtdjhhljijpadoaaDoorShaBlock
import Derived.Deep.MidRow
import Derived.Laws.CopyOwn
namespace Go.Proofs.YtdjhhljijpadoaaDoor.Sha
open Go.RowKit Go.Proofs.YtdjhhljijpadoaaDoorW.PrintWords Go.Proofs.YtdjhhljijpadoaaDoorW.PrintLast Go.Proofs.YtdjhhljijpadoaaDoorW.PrintMore Go.Proofs.YtdjhhljijpadoaaDoor.Bytes
set_option linter.unusedVariables false
set_option linter.unusedSimpArgs false

/-- A digest that is being worked out. -/
structure Sd where
  n : Nat
  h : V8
  buf : List UInt8
  used : Nat
def Sd.cells (s : Sd) : List Value := .int .i64 (s.n : Int) :: (s.h.cells.toList ++ (s.buf.map bcell ++ [.int .i64 (s.used : Int)]))
structure Sd.At (s : Sd) (w : World) (b : Nat) : Prop where
  lies : w.heap[b]? = some (.cells s.cells.toArray 71 (0, 0))
  len : s.buf.length = 64
theorem Sd.cells_len (s : Sd) (h : s.buf.length = 64) : s.cells.length = 74 := by simp [Sd.cells, V8.cells, h]
theorem grown_trans {a b c : World} {row : Option Nat} (h : a.grownBy b row) (k : b.grownBy c row) : a.grownBy c row := ⟨k.os.trans h.os, k.tape.trans h.tape, k.output.trans h.output, Nat.le_trans h.size k.size, fun i hi e => (k.block i (Nat.lt_of_lt_of_le hi h.size) e).trans (h.block i hi e)⟩
theorem grown_below {w w' : World} (h : Below w.heap.size w w') (row : Option Nat) : w.grownBy w' row := ⟨h.os, h.tape, h.output, h.size, fun k hk _ => h.block k hk⟩
theorem grown_refl (w : World) (row : Option Nat) : w.grownBy w row := ⟨rfl, rfl, rfl, Nat.le_refl _, fun _ _ _ => rfl⟩
theorem below_of_grown {B b : Nat} {a w w' : World} (h : Below B a w) (g : w.grownBy w' (some b)) (hb : B ≤ b) (hB : B ≤ w.heap.size) : Below B a w' := h.trans ⟨g.os, g.tape, g.output, g.size, fun i hi => g.block i (by omega) (by intro e; cases e; omega)⟩
/-- The state turned, all else as it was. -/
def Turn (w w' : World) (b : Nat) (s : Sd) : Prop := s.At w' b ∧ w.grownBy w' (some b)
section
variable {w w' w2 : World} {b : Nat} {s s' : Sd}
theorem Turn.start (h : s.At w b) : Turn w w b s := ⟨h, grown_refl _ _⟩
theorem Sd.At.lt (h : s.At w b) : b < w.heap.size := (Array.getElem?_eq_some_iff.1 h.lies).1
theorem Sd.At.keep (h : s.At w b) (k : Below w.heap.size w w') : s.At w' b := ⟨(k.block _ h.lt).trans h.lies, h.len⟩
theorem Turn.keep (h : Turn w w' b s) (k : Below w'.heap.size w' w2) : Turn w w2 b s := ⟨h.1.keep k, grown_trans h.2 (grown_below k _)⟩
theorem Turn.trans (h : Turn w w' b s) (k : Turn w' w2 b s') : Turn w w2 b s' := ⟨k.1, grown_trans h.2 k.2⟩
theorem Turn.row (h : Turn w w' b s) (cs : List Value) (e : s'.cells = cs) (hl : s'.buf.length = 64) : Turn w (w'.setRow b cs.toArray) b s' := ⟨⟨by rw [setRow_heap w' b _ _ _ _ h.1.lies, e], hl⟩, grown_trans h.2 ⟨rfl, rfl, rfl, by simp, fun i hi ne => setRow_other w' b i _ (fun hh => ne (by rw [hh]))⟩⟩
theorem Sd.At.count (h : s.At w b) : w.cell? ⟨b, 0, none⟩ = some (.int .i64 (s.n : Int)) := by simp [World.cell?, h.lies, Sd.cells]
theorem Sd.At.fro (h : s.At w b) (i : Nat) : w.frozen? ⟨b, i, none⟩ = false := by simp [World.frozen?, h.lies]
theorem Sd.At.use (h : s.At w b) : w.cell? ⟨b, 73, none⟩ = some (.int .i64 (s.used : Int)) := by
  simp [World.cell?, h.lies, Sd.cells, V8.cells]
  rw [List.getElem?_append_right (by simp [h.len])]
  simp [h.len]
theorem Sd.At.words (h : s.At w b) : w.rangeAt b 1 s.h.cells.toList := fun j v hv => by
  have hj : j < s.h.cells.toList.length := (List.getElem?_eq_some_iff.1 hv).1
  simp only [World.cell?, h.lies, Sd.cells]
  simp only [List.getElem?_toArray]
  rw [Nat.add_comm 1 j, List.getElem?_cons_succ, List.getElem?_append_left hj]
  exact hv
theorem Sd.At.bytes (h : s.At w b) : w.rangeAt b 9 (s.buf.map bcell) := fun j v hv => by
  have hj : j < (s.buf.map bcell).length := (List.getElem?_eq_some_iff.1 hv).1
  simp only [World.cell?, h.lies, Sd.cells]
  simp only [List.getElem?_toArray]
  rw [show 9 + j = (8 + j) + 1 from by omega, List.getElem?_cons_succ, List.getElem?_append_right (by show 8 ≤ 8 + j; omega)]
  rw [show 8 + j - s.h.cells.toList.length = j from by show 8 + j - 8 = j; omega, List.getElem?_append_left hj]
  exact hv
theorem setCell_row (w : World) (b i : Nat) (cs : List Value) (v : Value) (hg : w.heap[b]? = some (.cells cs.toArray 71 (0, 0))) : w.setCell ⟨b, i, none⟩ v = w.setRow b (cs.set i v).toArray := by
  rw [setCell_eq_setRow w b i _ _ _ v hg]
  simp
theorem Turn.setCount (h : Turn w w' b s) (n : Nat) : Turn w (w'.setCell ⟨b, 0, none⟩ (.int .i64 (n : Int))) b { s with n := n } := by
  rw [setCell_row w' b 0 _ _ h.1.lies]
  exact h.row _ rfl h.1.len
theorem Turn.setUsed (h : Turn w w' b s) (n : Nat) : Turn w (w'.setCell ⟨b, 73, none⟩ (.int .i64 (n : Int))) b { s with used := n } := by
  rw [setCell_row w' b 73 _ _ h.1.lies]
  refine h.row _ ?_ h.1.len
  show _ = List.set (_ :: (_ ++ (_ ++ _))) 73 _
  rw [List.set_cons_succ, List.set_append_right _ _ (by show 8 ≤ 72; decide), List.set_append_right _ _ (by rw [List.length_map, h.1.len]; show 64 ≤ 72 - 8; decide), List.length_map, h.1.len]
  rfl
theorem setCells_row (w : World) (b : Nat) (vs : List Value) : ∀ (o : Nat) (cs : List Value), w.heap[b]? = some (.cells cs.toArray 71 (0, 0)) → o + vs.length ≤ cs.length → w.setCells b o vs = w.setRow b (cs.take o ++ vs ++ cs.drop (o + vs.length)).toArray := by
  induction vs generalizing w with
  | nil =>
    intro o cs hg hl
    rw [World.setCells]
    simp
    exact (setRow_self w b _ _ _ hg).symm
  | cons v r ih =>
    intro o cs hg hl
    rw [List.length_cons] at hl
    rw [World.setCells, setCell_row w b o cs v hg, ih _ (o + 1) (cs.set o v) (by rw [setRow_heap w b _ _ _ _ hg]) (by rw [List.length_set]; omega), setRow_setRow]
    congr 2
    rw [List.take_add_one, List.take_set_of_le (Nat.le_refl _), List.getElem?_set_self (by omega), List.drop_set_of_lt (by omega)]
    simp
    rw [show o + 1 + r.length = o + (r.length + 1) from by omega]
theorem Turn.setWords (h : Turn w w' b s) (v : V8) : Turn w (w'.setCells b 1 v.cells.toList) b { s with h := v } := by
  rw [setCells_row w' b _ 1 _ h.1.lies (by rw [s.cells_len h.1.len]; show 1 + 8 ≤ 74; decide)]
  refine h.row _ ?_ h.1.len
  rfl
end
theorem wpList_store_row {P : Program} {w : World} {a : Act} {ops : Array Oper} {rest : List Oper} {op : Oper} {Q : Exit → Act → World → Prop} (hgd : op.guard = none) (ty : TypeId) (x y : Operand) (ho : op.op = .store ty x y)
    (b : Nat) (t : TypeId) (old cells : Array Value) (hx : a.eval x = .pointer (some ⟨b, 0, none⟩)) (hy : a.eval y = .agg cells)
    (hg : w.heap[b]? = some (.cells old t (0, 0))) (hi : (P.info? ty).map (·.size) = some cells.size) (hs : old.size = cells.size) (h1 : cells.all (·.oneCell') = true)
    (h : wpList P ops Q rest (a.put op.dst undef) (w.setRow b cells)) : wpList P ops Q (op :: rest) a w :=
  wpList_plain hgd fun K hK => by
    unfold Oper.wp execOp
    simp only [ho, hx, hy, Instr.storeAt, Instr.sureAddr, Sem.run_bind, Sem.run_pure, Result.andThen_ok, run_storeVar_row w b t ty old cells hg hi hs h1]
    exact hK _ _ h
set_option maxRecDepth 100000 in
set_option maxHeartbeats 2000000 in
theorem reset_calls (s : Sd) (b : Nat) (w : World) (hs : s.At w b) (hG : Glob w) : Calls Tryd.prog 24 #[.pointer (some ⟨b, 0, none⟩)] w fun e w' => e = .returned (.tuple #[]) ∧ Turn w w' b ⟨0, H0, List.replicate 64 0, 0⟩ := by
  have HS := Aside0.mk hs
  obtain ⟨_, hgs⟩ := hG.start
  have HL := Aside0.mk (World.rangeAt_of_block hgs 0 8)
  have hi := Aside0.mk (show (Tryd.prog.info? 71).map (·.size) = some 74 by kernel_rfl)
  have HZ := Aside0.mk (show s.cells.toArray.size = 74 by rw [List.size_toArray, s.cells_len hs.len])
  clear hs hG hgs
  go_enter Tryd.func24, Tryd.ntmps24
  go_wp2_with (first | ((with_reducible refine gate_dst (N := 3) rfl ?_); refine wpList_load_mid rfl 69 (.global 0) rfl 0 0 rfl H0.cells.toList _ HL.out Tryd.underlying69 rfl (by kernel_rfl) ?_) | ((with_reducible refine gate_store (t := 71) (p := 5) rfl ?_); refine wpList_store_row rfl 71 (.tmp 5) (.tmp 4) rfl b 71 s.cells.toArray (Sd.cells ⟨0, H0, List.replicate 64 0, 0⟩).toArray rfl rfl HS.out.lies hi.out HZ.out (by kernel_rfl) ?_))
  go_end0
  exact ⟨rfl, (Turn.start HS.out).row (s' := ⟨0, H0, List.replicate 64 0, 0⟩) _ rfl rfl⟩
set_option maxRecDepth 100000 in
set_option maxHeartbeats 2000000 in
theorem new_calls (w : World) (hG : Glob w) : Calls Tryd.prog 20 #[] w fun e w' => e = .returned (.pointer (some ⟨w.heap.size, 0, none⟩)) ∧ Sd.At ⟨0, H0, List.replicate 64 0, 0⟩ w' w.heap.size ∧ Below w.heap.size w w' := by
  have HG := Aside0.mk hG
  have HB := Aside0.mk ((Below.refl w.heap.size w).alloc (Nat.le_refl _) (.cells Tryd.zeroCells71 71))
  have HA : Aside0 (Sd.At ⟨0, ⟨0, 0, 0, 0, 0, 0, 0, 0⟩, List.replicate 64 0, 0⟩ (w.alloc (.cells Tryd.zeroCells71 71)) w.heap.size) := ⟨⟨by rw [World.alloc_heap_new]; rfl, rfl⟩⟩
  have HR := Aside0.mk (fun W (h : Glob W) h2 => reset_calls ⟨0, ⟨0, 0, 0, 0, 0, 0, 0, 0⟩, List.replicate 64 0, 0⟩ w.heap.size W h2 h)
  clear hG
  go_enter Tryd.func20, Tryd.ntmps20
  go_wp2_with (first | (go_at_call 24; ((with_reducible refine (HR.out _ (HG.out.below HB.out HG.out.lt) HA.out).mono ?_)); rintro e w2 ⟨rfl, hT⟩; have HT2 := Aside0.mk hT; clear hT))
  go_ret
  exact ⟨rfl, HT2.out.1, below_of_grown HB.out HT2.out.2 (Nat.le_refl _) HB.out.size⟩
end Go.Proofs.YtdjhhljijpadoaaDoor.Sha
