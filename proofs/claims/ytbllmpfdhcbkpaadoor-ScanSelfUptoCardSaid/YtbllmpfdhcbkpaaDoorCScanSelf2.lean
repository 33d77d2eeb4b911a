/- Texts of this claim, put together: ArrMod, GlMod, ShaState, ShaTook, ShaWrite, ShaSum, Q75, ShaPad, RSha1, RSha2, RSha3, Q83, RPad, RSha4, Store32, ScanMod, ScanRMod, ExtScMo, Upto. -/
import Derived.Test.YtbllmpfdhcbkpaaDoorRows
import Derived.Test.YtbllmpfdhcbkpaaDoorCScanSelf1
import Derived.OpenShut
import Derived.WideShapes
import Derived.Test.YtbllmpfdhcbkpaaDoorShelf
import Derived.Shelf.Vars
import Derived.Stop.LaidErr
import Derived.Deep.MidRow
import Derived.Laws.CopyOwn
import Derived.Deep.RegionHeld3
import Derived.Lib.BufferWrite
import Derived.Test.YtbllmpfdhcbkpaaDoorQ0
import Derived.Laws.BitsAllLaws
import Derived.Deep.DeepCutAuto
import Derived.Stop.BytesEq
import Derived.Test.YtbllmpfdhcbkpaaDoorWGuard
import Derived.Test.YtbllmpfdhcbkpaaDoorBytes
/- Arrays of numbers, opened; SHA-256's tables out of the row's condition. -/
set_option linter.unusedVariables false
set_option linter.unusedSimpArgs false
namespace Go.Proofs.YtbllmpfdhcbkpaaDoor.Sha
open Go Go.RowKit Go.Proofs.YtbllmpfdhcbkpaaDoorW.PrintWords Go.Proofs.YtbllmpfdhcbkpaaDoor.Bytes

section
variable {H : Type} {enc : TypeId × Value → H} {P : Program} {w : World} {base : Nat} {spare : Nat → Bool} {held : Bool} {fuel : Nat} {t : TypeId} {cs : List Value} {x : DataW H × List MemPlace}
/-- An array of whole numbers: its cells, its data. -/
theorem open_ints {k : IntKind} {n : Nat} {e : TypeId} (ht : P.underlying t = some (.array n e)) (he : P.underlying e = some (.int k)) (hc : P.cellsOf e = 1) (hct : P.cellsOf t = n)
    (h : DataW.trod enc P w base spare held fuel t cs = some x) :
    ∃ l : List Int, l.length = n ∧ cs = l.map (fun i => Value.int k i) ∧ x = (.agg (l.map fun i => .lit (.int k i)), []) ∧ ∀ i ∈ l, (Lit.int k i).wf = true := by
  obtain ⟨xs, m, rfl, rfl, hl, hx, hr⟩ := DataW.trod_array ht h
  rw [hct] at hl
  have each : ∀ i, i < n → ∃ z : Int, cs[i]? = some (.int k z) ∧ xs[i]? = some (.lit (.int k z), []) ∧ (Lit.int k z).wf = true := by
    intro i hi
    have h2 := hr i hi
    rw [hc, Nat.mul_one, List.getElem?_eq_getElem (by omega), List.drop_eq_getElem_cons (by omega), List.take_succ_cons, List.take_zero] at h2
    obtain ⟨z, h3, h4, h5⟩ := DataW.trod_int he h2
    refine ⟨z, ?_, ?_, h5⟩
    · rw [List.getElem?_eq_getElem (by omega)]
      injection h3 with h3 _
      rw [h3]
    · rw [List.getElem?_eq_getElem (by omega), h4]
  obtain ⟨l, hll, hla⟩ := Opens.list_of n each
  have at_ : ∀ i, i < n → ∃ z, l[i]? = some z ∧ cs[i]? = some (.int k z) ∧ xs[i]? = some (.lit (.int k z), []) := fun i hi => by
    have := List.getElem?_eq_getElem (l := l) (i := i) (by omega)
    exact ⟨l[i], this, (hla i _ this).1, (hla i _ this).2.1⟩
  have e1 : cs = l.map (fun i => Value.int k i) := by
    refine List.ext_getElem? fun i => ?_
    rw [List.getElem?_map]
    by_cases hi : i < n
    · obtain ⟨z, h1, h2, _⟩ := at_ i hi
      rw [h1, h2]; rfl
    · rw [List.getElem?_eq_none (by omega), List.getElem?_eq_none (by omega)]; rfl
  have e2 : xs = l.map (fun i => ((.lit (.int k i), []) : DataW H × List MemPlace)) := by
    refine List.ext_getElem? fun i => ?_
    rw [List.getElem?_map]
    by_cases hi : i < n
    · obtain ⟨z, h1, _, h3⟩ := at_ i hi
      rw [h1, h3]; rfl
    · rw [List.getElem?_eq_none (by omega), List.getElem?_eq_none (by omega)]; rfl
  refine ⟨l, hll, e1, ?_, fun i hi => ?_⟩
  · rw [e2, List.map_map]
    congr 1
    clear e2 e1 at_ hla hll
    induction l with
    | nil => rfl
    | cons a l ih => rw [List.map_cons, List.flatMap_cons, ih]; rfl
  · obtain ⟨j, hj⟩ := List.getElem?_of_mem hi
    exact (hla j i hj).2.2
end
/-- Numbers within a byte's range are bytes. -/
theorem bytes_of (l : List Int) (h : ∀ i ∈ l, (Lit.int .u8 i).wf = true) : ∃ d : List UInt8, l = d.map B := by
  refine ⟨l.map fun i => UInt8.ofNat i.toNat, ?_⟩
  rw [List.map_map]
  conv => lhs; rw [← List.map_id l]
  refine List.map_congr_left fun i hi => ?_
  have := bounds_u8 (h i hi)
  show i = ((UInt8.ofNat i.toNat).toNat : Int)
  rw [UInt8.toNat_ofNat']
  omega
theorem lits_inj {k : IntKind} {a b : List Int} (h : (DataW.agg (a.map fun i => .lit (.int k i)) : DataW Unit) = .agg (b.map fun i => .lit (.int k i))) : a = b := by
  injection h with h
  have hinj : Function.Injective (fun i : Int => (DataW.lit (.int k i) : DataW Unit)) := fun x y hxy => by injection hxy with hxy; injection hxy
  exact List.map_inj_right (fun x y hxy => hinj hxy) |>.1 h
theorem rounds_data : (Rows.laid_depot_sha_rounds : DataW Unit) = .agg ((K.map U).map fun i => .lit (.int .u32 i)) := by kernel_rfl
theorem start_data : (Rows.laid_depot_sha_start : DataW Unit) = .agg (([H0.a, H0.b, H0.c, H0.d, H0.e, H0.f, H0.g, H0.k].map U).map fun i => .lit (.int .u32 i)) := by kernel_rfl
theorem gType0 : (Tryd.prog.globals[0]?).map (·.type) = some 84 := by kernel_rfl
theorem gType1 : (Tryd.prog.globals[1]?).map (·.type) = some 110 := by kernel_rfl
/-- One listed table, in the heap. -/
theorem table {w : World} {nm : String} {g n : Nat} {tt e : TypeId} {ws : List Int} {d : DataW Unit} {t : TypeId} {cs : Array Value} {fuel gg : Nat} {p ps : List MemPlace} (hg : Tryd.prog.globalNamed nm = some g) (hgt : (Tryd.prog.globals[g]?).map (·.type) = some tt)
    (htu : Tryd.prog.underlying tt = some (.array n e)) (heu : Tryd.prog.underlying e = some (.int .u32)) (hce : Tryd.prog.cellsOf e = 1) (hct : Tryd.prog.cellsOf tt = n) (hn : 0 < n) (hd : d = .agg (ws.map fun i => .lit (.int .u32 i)))
    (h1 : Tryd.prog.globalNamed nm = some gg) (h2 : (Tryd.prog.globals[gg]?).map (·.type) = some t) (h3 : w.var? Tryd.prog nm = some cs) (h4 : DataW.trod (fun _ => ()) Tryd.prog w 0 (fun _ => true) false fuel t cs.toList = some (d, p))
    (hp : ∀ off, off < cs.size → MemPlace.cell g off ∈ ps) (hall : ∀ b off, MemPlace.cell b off ∈ ps → (∃ c t, w.heap[b]? = some (.cells c t (0, 0)))) :
    ∃ t, w.heap[g]? = some (.cells (ws.map fun i => Value.int .u32 i).toArray t (0, 0)) := by
  rw [hg] at h1
  injection h1 with h1
  subst h1
  rw [hgt] at h2
  injection h2 with h2
  subst h2
  obtain ⟨l, hll, hcs, hx, _⟩ := open_ints htu heu hce hct h4
  injection hx with hx _
  rw [hd] at hx
  have := lits_inj hx
  subst this
  have hsz : cs.size = n := by rw [← Array.length_toList, hcs, List.length_map, hll]
  obtain ⟨c, t, hc⟩ := hall g 0 (hp 0 (by omega))
  unfold World.var? at h3
  rw [hg] at h3
  have h3' : (match w.heap[g]? with | some (.cells cs _ _) => some cs | _ => none) = some cs := h3
  rw [hc] at h3'
  injection h3' with h3'
  subst h3'
  refine ⟨t, ?_⟩
  rw [hc]
  exact congrArg (fun z => some (Obj.cells z t (0, 0))) (Array.toList_inj.1 (show c.toList = (ws.map fun i => Value.int .u32 i).toArray.toList from hcs))
theorem row_mem (g : Nat) (n : Nat) : ∀ off, off < n → MemPlace.cell g off ∈ MemPlace.row ⟨g, 0, none⟩ n := by
  intro off h
  unfold MemPlace.row
  refine List.mem_map.2 ⟨off, List.mem_range.2 h, ?_⟩
  simp [Addr.add]
set_option maxRecDepth 100000 in
/-- The row's condition gives the tables. -/
theorem glob_of3 {w : World} (h' : laidMet Tryd.prog [("depot/sha.rounds", Rows.laid_depot_sha_rounds), ("depot/sha.start", Rows.laid_depot_sha_start)] w) : Glob w := by
  obtain ⟨ps, ⟨g1, t1, cs1, fuel1, p1, q1, a1, b1, c1, d1, ⟨g2, t2, cs2, fuel2, p2, q2, a2, b2, c2, d2, hq2, rfl⟩, rfl⟩, _, hall⟩ := h'
  have e1 : g1 = 1 := Option.some.inj (a1.symm.trans Door.gRounds)
  have e2 : g2 = 0 := Option.some.inj (a2.symm.trans Door.gStart)
  have r1 := table (n := 64) (e := 83) (ws := K.map U) Door.gRounds gType1 Tryd.underlying110 Tryd.underlying83 (by kernel_rfl) (by kernel_rfl) (by omega) rounds_data a1 b1 c1 d1 (fun off ho => by
    subst e1
    exact List.mem_append_left _ (List.mem_append_left _ (row_mem _ _ off ho))) (fun b off hb => (hall b off hb).1)
  have r2 := table (n := 8) (e := 83) (ws := [H0.a, H0.b, H0.c, H0.d, H0.e, H0.f, H0.g, H0.k].map U) Door.gStart gType0 Tryd.underlying84 Tryd.underlying83 (by kernel_rfl) (by kernel_rfl) (by omega) start_data a2 b2 c2 d2 (fun off ho => by
    subst e2
    exact List.mem_append_right _ (List.mem_append_left _ (List.mem_append_left _ (row_mem _ _ off ho)))) (fun b off hb => (hall b off hb).1)
  refine ⟨?_, ?_⟩
  · obtain ⟨t, ht⟩ := r1
    exact ⟨t, by rw [ht, List.map_map]; rfl⟩
  · obtain ⟨t, ht⟩ := r2
    exact ⟨t, ht⟩
end Go.Proofs.YtbllmpfdhcbkpaaDoor.Sha
/- What a world of these cards has: SHA-256's tables, the powers of ten, strings.Index' bound. -/
namespace Go.Proofs.YtbllmpfdhcbkpaaDoor.Sha
open Go Go.RowKit Go.Proofs.YtbllmpfdhcbkpaaDoor.Itoa
set_option linter.unusedVariables false
structure Gl (W : World) : Prop where
  gl : Glob W
  tab : Tab W
  mx : ∃ m, W.cell? ⟨2, 0, none⟩ = some (.int .i64 m)
  sz : 4 ≤ W.heap.size
theorem Gl.below {W W' : World} {n : Nat} (h : Gl W) (hb : Below n W W') (hn : 4 ≤ n) : Gl W' :=
  ⟨h.gl.below hb (by omega), h.tab.kept (hb.block _ (by omega)), h.mx.imp fun m e => by
    unfold World.cell? at e ⊢
    rw [hb.block _ (show 2 < n by omega)]
    exact e, Nat.le_trans h.sz hb.size⟩
theorem Gl.less {W W' : World} (h : Gl W) (hb : Below W.heap.size W W') : Gl W' := h.below hb h.sz
theorem pow_data : (Rows.laid_internal_strconv_uint64pow10 : DataW Unit) = Lib.tabData .u64 Lib.pow10Tab := by kernel_rfl
theorem gTypeP : (Tryd.prog.globals[3]?).map (·.type) = some 140 := by kernel_rfl
theorem gl_of {w : World} (h : laidMetH Tryd.prog Door.laid2 w) (hsh : w.ShapedOpen Tryd.prog) : Gl w := by
  have h0 : laidMet Tryd.prog Door.laid2 w := h
  have h3 := h0.tail.tail
  have hG := glob_of3 h3.tail
  have hT : Tab w := by
    rw [pow_data] at h3
    exact Lib.tabIs_of_head Door.gPow gTypeP Tryd.underlying140 Tryd.underlying104 (by kernel_rfl) (by kernel_rfl) h3
  exact ⟨hG, hT, Go.Proofs.cell_of_shapedOpen_int (zero := #[.int .i64 0]) (t := 3) hsh (of_decide_eq_true (by kernel_rfl)) (by kernel_rfl) rfl (by kernel_rfl) (by kernel_rfl) Tryd.underlying3, hT.lt⟩
end Go.Proofs.YtbllmpfdhcbkpaaDoor.Sha
/- SHA-256: the state's cells; Reset, New. -/
namespace Go.Proofs.YtbllmpfdhcbkpaaDoor.Sha
open Go.RowKit Go.Proofs.YtbllmpfdhcbkpaaDoorW.PrintWords Go.Proofs.YtbllmpfdhcbkpaaDoorW.PrintLast Go.Proofs.YtbllmpfdhcbkpaaDoorW.PrintMore Go.Proofs.YtbllmpfdhcbkpaaDoor.Bytes
set_option linter.unusedVariables false
set_option linter.unusedSimpArgs false

/-- A digest that is being worked out. -/
structure Sd where
  n : Nat
  h : V8
  buf : List UInt8
  used : Nat
def Sd.cells (s : Sd) : List Value := .int .i64 (s.n : Int) :: (s.h.cells.toList ++ (s.buf.map bcell ++ [.int .i64 (s.used : Int)]))
structure Sd.At (s : Sd) (w : World) (b : Nat) : Prop where
  lies : w.heap[b]? = some (.cells s.cells.toArray 87 (0, 0))
  len : s.buf.length = 64
theorem Sd.cells_len (s : Sd) (h : s.buf.length = 64) : s.cells.length = 74 := by simp [Sd.cells, V8.cells, h]
theorem grown_trans {a b c : World} {row : Option Nat} (h : a.grownBy b row) (k : b.grownBy c row) : a.grownBy c row := ⟨k.os.trans h.os, k.tape.trans h.tape, k.output.trans h.output, Nat.le_trans h.size k.size, fun i hi e => (k.block i (Nat.lt_of_lt_of_le hi h.size) e).trans (h.block i hi e)⟩
theorem grown_below {w w' : World} (h : Below w.heap.size w w') (row : Option Nat) : w.grownBy w' row := ⟨h.os, h.tape, h.output, h.size, fun k hk _ => h.block k hk⟩
theorem grown_refl (w : World) (row : Option Nat) : w.grownBy w row := ⟨rfl, rfl, rfl, Nat.le_refl _, fun _ _ _ => rfl⟩
theorem below_of_grown {B b : Nat} {a w w' : World} (h : Below B a w) (g : w.grownBy w' (some b)) (hb : B ≤ b) (hB : B ≤ w.heap.size) : Below B a w' := h.trans ⟨g.os, g.tape, g.output, g.size, fun i hi => g.block i (by omega) (by intro e; cases e; omega)⟩
/-- The state turned, all else as it was. -/
def Turn (w w' : World) (b : Nat) (s : Sd) : Prop := s.At w' b ∧ w.grownBy w' (some b)
section
variable {w w' w2 : World} {b : Nat} {s s' : Sd}
theorem Turn.start (h : s.At w b) : Turn w w b s := ⟨h, grown_refl _ _⟩
theorem Sd.At.lt (h : s.At w b) : b < w.heap.size := (Array.getElem?_eq_some_iff.1 h.lies).1
theorem Sd.At.keep (h : s.At w b) (k : Below w.heap.size w w') : s.At w' b := ⟨(k.block _ h.lt).trans h.lies, h.len⟩
theorem Turn.keep (h : Turn w w' b s) (k : Below w'.heap.size w' w2) : Turn w w2 b s := ⟨h.1.keep k, grown_trans h.2 (grown_below k _)⟩
theorem Turn.trans (h : Turn w w' b s) (k : Turn w' w2 b s') : Turn w w2 b s' := ⟨k.1, grown_trans h.2 k.2⟩
theorem Turn.row (h : Turn w w' b s) (cs : List Value) (e : s'.cells = cs) (hl : s'.buf.length = 64) : Turn w (w'.setRow b cs.toArray) b s' := ⟨⟨by rw [setRow_heap w' b _ _ _ _ h.1.lies, e], hl⟩, grown_trans h.2 ⟨rfl, rfl, rfl, by simp, fun i hi ne => setRow_other w' b i _ (fun hh => ne (by rw [hh]))⟩⟩
theorem Sd.At.count (h : s.At w b) : w.cell? ⟨b, 0, none⟩ = some (.int .i64 (s.n : Int)) := by simp [World.cell?, h.lies, Sd.cells]
theorem Sd.At.fro (h : s.At w b) (i : Nat) : w.frozen? ⟨b, i, none⟩ = false := by simp [World.frozen?, h.lies]
theorem Sd.At.use (h : s.At w b) : w.cell? ⟨b, 73, none⟩ = some (.int .i64 (s.used : Int)) := by
  simp [World.cell?, h.lies, Sd.cells, V8.cells]
  rw [List.getElem?_append_right (by simp [h.len])]
  simp [h.len]
theorem Sd.At.words (h : s.At w b) : w.rangeAt b 1 s.h.cells.toList := fun j v hv => by
  have hj : j < s.h.cells.toList.length := (List.getElem?_eq_some_iff.1 hv).1
  simp only [World.cell?, h.lies, Sd.cells]
  simp only [List.getElem?_toArray]
  rw [Nat.add_comm 1 j, List.getElem?_cons_succ, List.getElem?_append_left hj]
  exact hv
theorem Sd.At.bytes (h : s.At w b) : w.rangeAt b 9 (s.buf.map bcell) := fun j v hv => by
  have hj : j < (s.buf.map bcell).length := (List.getElem?_eq_some_iff.1 hv).1
  simp only [World.cell?, h.lies, Sd.cells]
  simp only [List.getElem?_toArray]
  rw [show 9 + j = (8 + j) + 1 from by omega, List.getElem?_cons_succ, List.getElem?_append_right (by show 8 ≤ 8 + j; omega)]
  rw [show 8 + j - s.h.cells.toList.length = j from by show 8 + j - 8 = j; omega, List.getElem?_append_left hj]
  exact hv
theorem setCell_row (w : World) (b i : Nat) (cs : List Value) (v : Value) (hg : w.heap[b]? = some (.cells cs.toArray 87 (0, 0))) : w.setCell ⟨b, i, none⟩ v = w.setRow b (cs.set i v).toArray := by
  rw [setCell_eq_setRow w b i _ _ _ v hg]
  simp
theorem Turn.setCount (h : Turn w w' b s) (n : Nat) : Turn w (w'.setCell ⟨b, 0, none⟩ (.int .i64 (n : Int))) b { s with n := n } := by
  rw [setCell_row w' b 0 _ _ h.1.lies]
  exact h.row _ rfl h.1.len
theorem Turn.setUsed (h : Turn w w' b s) (n : Nat) : Turn w (w'.setCell ⟨b, 73, none⟩ (.int .i64 (n : Int))) b { s with used := n } := by
  rw [setCell_row w' b 73 _ _ h.1.lies]
  refine h.row _ ?_ h.1.len
  show _ = List.set (_ :: (_ ++ (_ ++ _))) 73 _
  rw [List.set_cons_succ, List.set_append_right _ _ (by show 8 ≤ 72; decide), List.set_append_right _ _ (by rw [List.length_map, h.1.len]; show 64 ≤ 72 - 8; decide), List.length_map, h.1.len]
  rfl
theorem setCells_row (w : World) (b : Nat) (vs : List Value) : ∀ (o : Nat) (cs : List Value), w.heap[b]? = some (.cells cs.toArray 87 (0, 0)) → o + vs.length ≤ cs.length → w.setCells b o vs = w.setRow b (cs.take o ++ vs ++ cs.drop (o + vs.length)).toArray := by
  induction vs generalizing w with
  | nil =>
    intro o cs hg hl
    rw [World.setCells]
    simp
    exact (setRow_self w b _ _ _ hg).symm
  | cons v r ih =>
    intro o cs hg hl
    rw [List.length_cons] at hl
    rw [World.setCells, setCell_row w b o cs v hg, ih _ (o + 1) (cs.set o v) (by rw [setRow_heap w b _ _ _ _ hg]) (by rw [List.length_set]; omega), setRow_setRow]
    congr 2
    rw [List.take_add_one, List.take_set_of_le (Nat.le_refl _), List.getElem?_set_self (by omega), List.drop_set_of_lt (by omega)]
    simp
    rw [show o + 1 + r.length = o + (r.length + 1) from by omega]
theorem Turn.setWords (h : Turn w w' b s) (v : V8) : Turn w (w'.setCells b 1 v.cells.toList) b { s with h := v } := by
  rw [setCells_row w' b _ 1 _ h.1.lies (by rw [s.cells_len h.1.len]; show 1 + 8 ≤ 74; decide)]
  refine h.row _ ?_ h.1.len
  rfl
end
theorem wpList_store_row {P : Program} {w : World} {a : Act} {ops : Array Oper} {rest : List Oper} {op : Oper} {Q : Exit → Act → World → Prop} (hgd : op.guard = none) (ty : TypeId) (x y : Operand) (ho : op.op = .store ty x y)
    (b : Nat) (t : TypeId) (old cells : Array Value) (hx : a.eval x = .pointer (some ⟨b, 0, none⟩)) (hy : a.eval y = .agg cells)
    (hg : w.heap[b]? = some (.cells old t (0, 0))) (hi : (P.info? ty).map (·.size) = some cells.size) (hs : old.size = cells.size) (h1 : cells.all (·.oneCell') = true)
    (h : wpList P ops Q rest (a.put op.dst undef) (w.setRow b cells)) : wpList P ops Q (op :: rest) a w :=
  wpList_plain hgd fun K hK => by
    unfold Oper.wp execOp
    simp only [ho, hx, hy, Instr.storeAt, Instr.sureAddr, Sem.run_bind, Sem.run_pure, Result.andThen_ok, run_storeVar_row w b t ty old cells hg hi hs h1]
    exact hK _ _ h
set_option maxRecDepth 100000 in
set_option maxHeartbeats 2000000 in
theorem reset_calls (s : Sd) (b : Nat) (w : World) (hs : s.At w b) (hG : Glob w) : Calls Tryd.prog 34 #[.pointer (some ⟨b, 0, none⟩)] w fun e w' => e = .returned (.tuple #[]) ∧ Turn w w' b ⟨0, H0, List.replicate 64 0, 0⟩ := by
  have HS := Aside0.mk hs
  obtain ⟨_, hgs⟩ := hG.start
  have HL := Aside0.mk (World.rangeAt_of_block hgs 0 8)
  have hi := Aside0.mk (show (Tryd.prog.info? 87).map (·.size) = some 74 by kernel_rfl)
  have HZ := Aside0.mk (show s.cells.toArray.size = 74 by rw [List.size_toArray, s.cells_len hs.len])
  clear hs hG hgs
  go_enter Tryd.func34, Tryd.ntmps34
  go_wp2_with (first | ((with_reducible refine gate_dst (N := 3) rfl ?_); refine wpList_load_mid rfl 84 (.global 0) rfl 0 0 rfl H0.cells.toList _ HL.out Tryd.underlying84 rfl (by kernel_rfl) ?_) | ((with_reducible refine gate_store (t := 87) (p := 5) rfl ?_); refine wpList_store_row rfl 87 (.tmp 5) (.tmp 4) rfl b 87 s.cells.toArray (Sd.cells ⟨0, H0, List.replicate 64 0, 0⟩).toArray rfl rfl HS.out.lies hi.out HZ.out (by kernel_rfl) ?_))
  go_end0
  exact ⟨rfl, (Turn.start HS.out).row (s' := ⟨0, H0, List.replicate 64 0, 0⟩) _ rfl rfl⟩
set_option maxRecDepth 100000 in
set_option maxHeartbeats 2000000 in
theorem new_calls (w : World) (hG : Glob w) : Calls Tryd.prog 14 #[] w fun e w' => e = .returned (.pointer (some ⟨w.heap.size, 0, none⟩)) ∧ Sd.At ⟨0, H0, List.replicate 64 0, 0⟩ w' w.heap.size ∧ Below w.heap.size w w' := by
  have HG := Aside0.mk hG
  have HB := Aside0.mk ((Below.refl w.heap.size w).alloc (Nat.le_refl _) (.cells Tryd.zeroCells87 87))
  have HA : Aside0 (Sd.At ⟨0, ⟨0, 0, 0, 0, 0, 0, 0, 0⟩, List.replicate 64 0, 0⟩ (w.alloc (.cells Tryd.zeroCells87 87)) w.heap.size) := ⟨⟨by rw [World.alloc_heap_new]; rfl, rfl⟩⟩
  have HR := Aside0.mk (fun W (h : Glob W) h2 => reset_calls ⟨0, ⟨0, 0, 0, 0, 0, 0, 0, 0⟩, List.replicate 64 0, 0⟩ w.heap.size W h2 h)
  clear hG
  go_enter Tryd.func14, Tryd.ntmps14
  go_wp2_with (first | (go_at_call 34; ((with_reducible refine (HR.out _ (HG.out.below HB.out HG.out.lt) HA.out).mono ?_)); rintro e w2 ⟨rfl, hT⟩; have HT2 := Aside0.mk hT; clear hT))
  go_ret
  exact ⟨rfl, HT2.out.1, below_of_grown HB.out HT2.out.2 (Nat.le_refl _) HB.out.size⟩
end Go.Proofs.YtbllmpfdhcbkpaaDoor.Sha
/- SHA-256: took. -/
namespace Go.Proofs.YtbllmpfdhcbkpaaDoor.Sha
open Go.Proofs.YtbllmpfdhcbkpaaDoor.OrdersBut Go.RowKit Go.Proofs.YtbllmpfdhcbkpaaDoorW.PrintWords Go.Proofs.YtbllmpfdhcbkpaaDoorW.PrintLast Go.Proofs.YtbllmpfdhcbkpaaDoorW.PrintMore Go.Proofs.YtbllmpfdhcbkpaaDoor.Bytes
set_option linter.unusedVariables false
set_option linter.unusedSimpArgs false

theorem Glob.turn {w w' : World} {b : Nat} {s : Sd} (h : Glob w) (k : Turn w w' b s) (hb : 2 ≤ b) : Glob w' := h.below (below_of_grown (Below.refl 2 w) k.2 hb h.lt) (Nat.le_refl _)
/-- A row out of the middle of a block, in the part of a region that stands still. -/
theorem wpStill_load_mid {P : Program} {ops : Array Oper} {w : World} {op : Oper} {rest : List Oper} {a : Act} {Q : Act → Prop} (ty : TypeId) (x : Operand) (ho : op.op = .load ty x)
    (b o : Nat) (hx : a.eval x = .pointer (some ⟨b, o, none⟩)) (cs : List Value) (d : TypeDesc) (hc : w.rangeAt b o cs)
    (hu : P.underlying ty = some d) (hd : d.isRow = true) (hi : (P.info? ty).map (·.size) = some cs.length) (hw : Region.wanted op (yielded ops a.tmps) = true)
    (h : wpStill P ops w Q rest (a.put op.dst (.agg cs.toArray))) : wpStill P ops w Q (op :: rest) a := by
  refine wpStill_step fun K hK => ?_
  rw [if_pos hw]
  unfold Oper.still execOp
  simp only [ho, hx, Instr.loadAt, Instr.sureAddr, Sem.run_bind, Sem.run_pure, Result.andThen_ok, run_loadVar_mid w b o ty cs d hc hu hd hi]
  exact ⟨rfl, hK _ h⟩
/-- k bytes have come into the buffer. -/
def Sd.took (s : Sd) (k : Nat) : Sd := if s.used + k = 64 then ⟨s.n + k, block s.h s.buf, s.buf, 0⟩ else ⟨s.n + k, s.h, s.buf, s.used + k⟩
set_option maxRecDepth 100000 in
set_option maxHeartbeats 2000000 in
theorem took_calls (s : Sd) (b k : Nat) (w : World) (hs : s.At w b) (hG : Glob w) (hb : 2 ≤ b) (hu : s.used + k ≤ 64) (hn : s.n + k < 4611686018427387904) : Calls Tryd.prog 35 #[.pointer (some ⟨b, 0, none⟩), .int .i64 (k : Int)] w fun e w' => e = .returned (.tuple #[]) ∧ Turn w w' b (s.took k) := by
  have HG := Aside0.mk hG
  have HB2 := Aside0.mk hb
  have c0 := hs.count
  have c73 := hs.use
  have f0 := hs.fro 0
  have f73 := hs.fro 73
  have HS := Aside0.mk hs
  have T1 := Aside0.mk (((Turn.start hs).setCount (s.n + k)))
  have T2 := Aside0.mk (T1.out.setUsed (s.used + k))
  have c2 := T2.out.1.use
  have f2 := T2.out.1.fro 73
  simp only [] at c2
  clear hs hG
  have e1 : IntKind.i64.wrap ((s.n : Int) + (k : Int)) = ((s.n + k : Nat) : Int) := by rw [IntKind.wrap_i64]; omega
  have e2 : IntKind.i64.wrap ((s.used : Int) + (k : Int)) = ((s.used + k : Nat) : Int) := by rw [IntKind.wrap_i64]; omega
  by_cases hc : s.used + k = 64
  · have d1 : decide (((s.used + k : Nat) : Int) = 64) = true := decide_eq_true (by omega)
    go_enter Tryd.func35, Tryd.ntmps35
    go_wp2
    clear c0 c73 f0 f73 c2 f2 e1 e2 d1
    have T2' : Aside0 (Turn w ((w.setCell { block := b, off := 0 } (Value.int IntKind.i64 ((s.n : Int) + (k : Int)))).setCell { block := b, off := 73 } (Value.int IntKind.i64 64)) b { n := s.n + k, h := s.h, buf := s.buf, used := 64 }) := ⟨by
      have := T2.out
      rw [hc] at this
      exact this⟩
    clear T2
    generalize ((w.setCell { block := b, off := 0 } (Value.int IntKind.i64 ((s.n : Int) + (k : Int)))).setCell { block := b, off := 73 } (Value.int IntKind.i64 64)) = w1 at T2' ⊢
    have T3 := Aside0.mk (T2'.out.keep (below_drew (Below.refl _ w1)))
    have HG2 := Aside0.mk (HG.out.turn T3.out HB2.out)
    obtain ⟨vb, hvb⟩ : ∃ v, block s.h s.buf = v := ⟨_, rfl⟩
    have HVB := Aside0.mk hvb
    have HC := Aside0.mk (block_calls s.h s.buf T3.out.1.len w1.drew HG2.out)
    rw [hvb] at HC
    clear hvb
    have HELD := Aside0.mk (show w1.drew.rangeAt b 1 s.h.cells.toList ∧ w1.drew.rangeAt b 9 (s.buf.map bcell) from ⟨T3.out.1.words, T3.out.1.bytes⟩)
    clear T2' T1 HS
    refine wp_region_but 12 (fun W => W.rangeAt b 1 s.h.cells.toList ∧ W.rangeAt b 9 (s.buf.map bcell)) (by kernel_rfl) ?_
    refine wpAnyB_take (i := 0) rfl (by kernel_rfl) (by kernel_rfl) (by kernel_rfl) (by decide) (fun _ _ _ h => h) (Or.inl ⟨by kernel_rfl, fun w _ => by go_simp <;> with_reducible rfl⟩) (fun _ => HELD.out) ?_
    try simp only [Act.put, List.setIfInBounds_toArray, List.set_cons_zero, List.set_cons_succ]
    refine wpAnyB_take (i := 1) rfl (by kernel_rfl) (by kernel_rfl) (by kernel_rfl) (by decide) (fun _ _ _ h => h) (Or.inl ⟨by kernel_rfl, fun w _ => by go_simp <;> with_reducible rfl⟩) (fun _ => HELD.out) ?_
    try simp only [Act.put, List.setIfInBounds_toArray, List.set_cons_zero, List.set_cons_succ]
    refine wpAnyB_take (i := 2) rfl (by kernel_rfl) (by kernel_rfl) (by kernel_rfl) (by decide) (fun _ _ _ h => h) (Or.inl ⟨by kernel_rfl, fun w _ => by go_simp <;> with_reducible rfl⟩) (fun _ => HELD.out) ?_
    try simp only [Act.put, List.setIfInBounds_toArray, List.set_cons_zero, List.set_cons_succ]
    refine wpAnyB_take (i := 3) rfl (by kernel_rfl) (by kernel_rfl) (by kernel_rfl) (by decide) (fun _ _ _ h => h) (Or.inl ⟨by kernel_rfl, fun w _ => by go_simp <;> with_reducible rfl⟩) (fun _ => HELD.out) ?_
    try simp only [Act.put, List.setIfInBounds_toArray, List.set_cons_zero, List.set_cons_succ]
    refine wpAnyB_load (i := 4) rfl (by kernel_rfl) (by kernel_rfl) (by kernel_rfl) (by decide) (by kernel_rfl) (by kernel_rfl) (fun _ _ _ h => h) (yieldsIf_load_mid (by kernel_rfl) 84 (.tmp 30) rfl b 1 rfl s.h.cells.toList _ (fun w h => h.1) Tryd.underlying84 rfl (by kernel_rfl)) HELD.out ?_
    try simp only [Act.put, List.setIfInBounds_toArray, List.set_cons_zero, List.set_cons_succ]
    refine wpAnyB_take (i := 5) rfl (by kernel_rfl) (by kernel_rfl) (by kernel_rfl) (by decide) (fun _ _ _ h => h) (Or.inl ⟨by kernel_rfl, fun w _ => by go_simp <;> with_reducible rfl⟩) (fun _ => HELD.out) ?_
    try simp only [Act.put, List.setIfInBounds_toArray, List.set_cons_zero, List.set_cons_succ]
    refine wpAnyB_take (i := 6) rfl (by kernel_rfl) (by kernel_rfl) (by kernel_rfl) (by decide) (fun _ _ _ h => h) (Or.inl ⟨by kernel_rfl, fun w _ => by go_simp <;> with_reducible rfl⟩) (fun _ => HELD.out) ?_
    try simp only [Act.put, List.setIfInBounds_toArray, List.set_cons_zero, List.set_cons_succ]
    refine wpAnyB_take (i := 7) rfl (by kernel_rfl) (by kernel_rfl) (by kernel_rfl) (by decide) (fun _ _ _ h => h) (Or.inl ⟨by kernel_rfl, fun w _ => by go_simp <;> with_reducible rfl⟩) (fun _ => HELD.out) ?_
    try simp only [Act.put, List.setIfInBounds_toArray, List.set_cons_zero, List.set_cons_succ]
    refine wpAnyB_load (i := 8) rfl (by kernel_rfl) (by kernel_rfl) (by kernel_rfl) (by decide) (by kernel_rfl) (by kernel_rfl) (fun _ _ _ h => h) (yieldsIf_load_mid (by kernel_rfl) 85 (.tmp 34) rfl b 9 rfl (s.buf.map bcell) _ (fun w h => h.2) Tryd.underlying85 rfl (by rw [List.length_map, T3.out.1.len]; kernel_rfl)) HELD.out ?_
    try simp only [Act.put, List.setIfInBounds_toArray, List.set_cons_zero, List.set_cons_succ]
    refine wpAnyB_one (i := 9) rfl (by kernel_rfl) (fun K9 hK => ?_)
    rw [if_pos (by kernel_rfl)]
    go_simp
    with_reducible refine HC.out.mono ?_
    rintro e w4 ⟨rfl, hb4⟩
    have T4 := Aside0.mk (T3.out.keep hb4)
    have HELD4 := Aside0.mk (show w4.rangeAt b 1 s.h.cells.toList ∧ w4.rangeAt b 9 (s.buf.map bcell) from ⟨T4.out.1.words, T4.out.1.bytes⟩)
    refine hK _ _ (fun _ => HELD4.out) ?_
    clear hK K9 HELD HC hb4
    try simp only [Act.put, List.setIfInBounds_toArray, List.set_cons_zero, List.set_cons_succ]
    refine wpAnyB_take (i := 10) rfl (by kernel_rfl) (by kernel_rfl) (by kernel_rfl) (by decide) (fun _ _ _ h => h) (Or.inl ⟨by kernel_rfl, fun w _ => by go_simp <;> with_reducible rfl⟩) (fun _ => HELD4.out) ?_
    try simp only [Act.put, List.setIfInBounds_toArray, List.set_cons_zero, List.set_cons_succ]
    refine wpAnyB_take (i := 11) rfl (by kernel_rfl) (by kernel_rfl) (by kernel_rfl) (by decide) (fun _ _ _ h => h) (Or.inl ⟨by kernel_rfl, fun w _ => by go_simp <;> with_reducible rfl⟩) (fun _ => HELD4.out) ?_
    try simp only [Act.put, List.setIfInBounds_toArray, List.set_cons_zero, List.set_cons_succ]
    refine wpAnyB_one (i := 12) rfl (by kernel_rfl) (fun K9 hK => ?_)
    rw [if_pos (by kernel_rfl)]
    refine wp_store_mid 84 (.tmp 38) (.tmp 36) rfl b 1 vb.cells rfl rfl (fun j hj => ⟨T4.out.1.words.isSome j hj, T4.out.1.fro _⟩) (by kernel_rfl) (by kernel_rfl) ?_
    refine hK _ _ (fun h => Bool.noConfusion (h.symm.trans (show _ = true by kernel_rfl))) ?_
    have T5 := Aside0.mk (T4.out.setWords vb)
    generalize w4.setCells b 1 vb.cells.toList = w5 at T5 ⊢
    refine wpAnyB_done (by kernel_rfl) ?_ _
    clear hK K9 HELD4 T4
    have c5 := T5.out.1.use
    have f5 := T5.out.1.fro 73
    try simp only [Act.put, List.setIfInBounds_toArray, List.set_cons_zero, List.set_cons_succ]
    go_wp2
    go_end0
    refine ⟨rfl, ?_⟩
    unfold Sd.took
    rw [if_pos hc, HVB.out]
    exact T5.out.setUsed 0
  · have d1 : decide (((s.used + k : Nat) : Int) = 64) = false := decide_eq_false (by omega)
    go_enter Tryd.func35, Tryd.ntmps35
    go_wp2
    go_end0
    refine ⟨rfl, ?_⟩
    unfold Sd.took
    rw [if_neg hc]
    exact T2.out
end Go.Proofs.YtbllmpfdhcbkpaaDoor.Sha
/- SHA-256: WriteText. -/
namespace Go.Proofs.YtbllmpfdhcbkpaaDoor.Sha
open Go.RowKit Go.Proofs.YtbllmpfdhcbkpaaDoorW.PrintWords Go.Proofs.YtbllmpfdhcbkpaaDoorW.PrintLast Go.Proofs.YtbllmpfdhcbkpaaDoorW.PrintMore Go.Proofs.YtbllmpfdhcbkpaaDoor.Bytes
set_option linter.unusedVariables false
set_option linter.unusedSimpArgs false

/-- copy from a string, as much as fits. -/
theorem run_copy_string_min {P : Program} (w : World) (dT sT ty elem : TypeId) (g o dLen dCap m : Nat) (s : ByteArray) (cur : Array Value) (t : TypeId)
    (hu : P.underlying dT = some (.slice elem)) (hs : (P.info? elem).map (·.size) = some 1) (hg : w.heap[g]? = some (.cells cur t (0, 0))) (hm : Nat.min s.size dLen = m) (hfit : o + m ≤ cur.size) :
    (Builtin.copy_ #[dT, sT] ty #[.slice (some ⟨g, o, none⟩) dLen dCap, .string s]).run P w =
      .ok (goInt m) (w.setRow g (cur.toList.take o ++ (s.data.toList.take m).map bcell ++ cur.toList.drop (o + m)).toArray) := by
  have hms : m ≤ s.size := by rw [← hm]; exact Nat.min_le_left _ _
  have hlen : (Lib.byteCells (s.data.toList.take m)).length = m := by
    rw [Lib.byteCells_length, List.length_take]
    have : s.data.toList.length = s.size := (Lib.size_eq s).symm
    omega
  have hst := run_storeCells_at P g o t (Lib.byteCells (s.data.toList.take m)) 0 cur w hg (by rw [hlen]; simpa using hfit) (Lib.byteCells_one _)
  have htk : List.take m (List.map (fun b : UInt8 => Value.int IntKind.u8 (b.toNat : Int)) s.data.toList) = Lib.byteCells (s.data.toList.take m) := by
    rw [← List.map_take]
    rfl
  rw [hlen] at hst
  simp only [Nat.add_zero] at hst
  cases hq : P.info? elem with
  | none => simp [hq] at hs
  | some i =>
    simp [Builtin.copy_, run_underlying hu, Builtin.lenOf, Builtin.firstCells, sizeOf, typeInfo, hq, hm]
    rw [htk, hst]
    have hbc : Lib.byteCells (List.take m s.data.toList) = List.take m (List.map bcell s.data.toList) := by
      rw [← List.map_take]
      rfl
    rw [hbc]
    simp [Result.andThen]
/-- What has been written. -/
def Sd.Holds (s : Sd) (l : List UInt8) : Prop := ∃ a r, l = a ++ r ∧ a.length % 64 = 0 ∧ r.length < 64 ∧ s.h = blocks H0 a ∧ s.n = l.length ∧ s.used = r.length ∧ s.buf.length = 64 ∧ s.buf.take r.length = r
theorem holds_new : Sd.Holds ⟨0, H0, List.replicate 64 0, 0⟩ [] := ⟨[], [], rfl, rfl, by decide, (blocks_few _ _ (by decide)).symm, rfl, rfl, rfl, rfl⟩
/-- Bytes into the buffer. -/
def Sd.put (s : Sd) (bs : List UInt8) : Sd := { s with buf := s.buf.take s.used ++ bs ++ s.buf.drop (s.used + bs.length) }
theorem put_len (s : Sd) (bs : List UInt8) (h : s.buf.length = 64) (hu : s.used + bs.length ≤ 64) : (s.put bs).buf.length = 64 := by
  simp [Sd.put, h]
  omega
theorem holds_put {s : Sd} {l bs : List UInt8} (h : s.Holds l) (hu : s.used + bs.length ≤ 64) : ((s.put bs).took bs.length).Holds (l ++ bs) := by
  obtain ⟨a, r, rfl, ha, hr, hh, hn, hus, hb, ht⟩ := h
  have hb2 : (s.put bs).buf = r ++ bs ++ s.buf.drop (r.length + bs.length) := by
    unfold Sd.put
    rw [hus, ht]
  unfold Sd.took
  show Sd.Holds (if s.used + bs.length = 64 then _ else _) _
  split
  · rename_i h64
    have hd : s.buf.drop (r.length + bs.length) = [] := List.drop_eq_nil_of_le (by omega)
    rw [hd, List.append_nil] at hb2
    have hl : (r ++ bs).length = 64 := by rw [List.length_append]; omega
    refine ⟨a ++ (r ++ bs), [], by simp, by rw [List.length_append, hl]; omega, by decide, ?_, ?_, rfl, by rw [hb2]; exact hl, by simp⟩
    · show block s.h (s.put bs).buf = _
      rw [hb2, hh, blocks_end _ _ _ ha hl]
    · show s.n + bs.length = _
      rw [hn]; simp; omega
  · rename_i h64
    refine ⟨a, r ++ bs, by simp, ha, by rw [List.length_append]; omega, hh, ?_, ?_, put_len s bs hb hu, ?_⟩
    · show s.n + bs.length = _
      rw [hn]; simp; omega
    · show s.used + bs.length = _
      rw [hus, List.length_append]
    · rw [hb2, List.take_left']
      rfl
theorem Turn.put {w w' : World} {b : Nat} {s : Sd} (h : Turn w w' b s) (bs : List UInt8) (hu : s.used + bs.length ≤ 64) : Turn w (w'.setRow b (s.cells.take (9 + s.used) ++ bs.map bcell ++ s.cells.drop (9 + s.used + bs.length)).toArray) b (s.put bs) := by
  refine h.row _ ?_ (put_len s bs h.1.len hu)
  have hl := h.1.len
  have e1 : s.cells = (.int .i64 (s.n : Int) :: s.h.cells.toList) ++ (s.buf.map bcell ++ [.int .i64 (s.used : Int)]) := rfl
  have e9 : (Value.int .i64 (s.n : Int) :: s.h.cells.toList).length = 9 := rfl
  rw [e1, List.take_append, List.drop_append, e9, List.take_of_length_le (by rw [e9]; omega), List.drop_eq_nil_of_le (by rw [e9]; omega)]
  rw [show 9 + s.used - 9 = s.used from by omega, show 9 + s.used + bs.length - 9 = s.used + bs.length from by omega]
  rw [List.take_append_of_le_length (by rw [List.length_map, hl]; omega), List.drop_append_of_le_length (by rw [List.length_map, hl]; omega)]
  unfold Sd.put Sd.cells
  simp [List.map_append, List.map_take, List.map_drop]
theorem wpList_copy_text {P : Program} {w : World} {ops : Array Oper} {rest : List Oper} {o : Oper} {a : Act} {Q : Exit → Act → World → Prop} (hgd : o.guard = none) (d s : Operand) (dT sT : TypeId)
    (ho : o.op = .call { callee := .builtin .copy, args := #[d, s], argTypes := #[dT, sT] }) (elem : TypeId) (hu : P.underlying dT = some (.slice elem)) (hsz : (P.info? elem).map (·.size) = some 1)
    (g off dLen dCap m : Nat) (t : ByteArray) (hd : a.eval d = .slice (some ⟨g, off, none⟩) dLen dCap) (hs : a.eval s = .string t)
    (cur : Array Value) (ty : TypeId) (hg : w.heap[g]? = some (.cells cur ty (0, 0))) (hm : Nat.min t.size dLen = m) (hfit : off + m ≤ cur.size)
    (h : wpList P ops Q rest (a.put o.dst (goInt m)) (w.setRow g (cur.toList.take off ++ (t.data.toList.take m).map bcell ++ cur.toList.drop (off + m)).toArray)) : wpList P ops Q (o :: rest) a w := by
  refine wpList_plain hgd fun K hK => ?_
  have hrun := run_copy_string_min (P := P) w dT sT o.type elem g off dLen dCap m t cur ty hu hsz hg hm hfit
  unfold Oper.wp execOp
  simp only [ho, resolve, invoke, builtin, Sem.run_bind, Sem.run_pure, Result.andThen_ok, List.map_toArray, List.map_cons, List.map_nil, hd, hs, hrun]
  exact hK _ _ h
set_option maxRecDepth 100000 in
set_option maxHeartbeats 4000000 in
theorem writeText_calls (s : Sd) (l : List UInt8) (b : Nat) (t : ByteArray) (w : World) (hs : s.At w b) (hl : s.Holds l) (hG : Glob w) (hb : 2 ≤ b) (hn : l.length + t.size < 4611686018427387904) : Calls Tryd.prog 15 #[.pointer (some ⟨b, 0, none⟩), .string t] w fun e w' => e = .returned (.tuple #[]) ∧ ∃ s', Turn w w' b s' ∧ s'.Holds (l ++ t.data.toList) := by
  have HG := Aside0.mk hG
  have HB2 := Aside0.mk hb
  have HS := Aside0.mk (Turn.start hs)
  have HL := Aside0.mk hl
  have HT := Aside0.mk (fun s k w h1 h2 h3 h4 => took_calls s b k w h1 h2 hb h3 h4)
  clear hs hG hl
  go_enter Tryd.func15, Tryd.ntmps15
  go_wp2
  go_loopg [1] t.size (fun g v1 wx => ∃ (tt : ByteArray) (lx : List UInt8) (sx : Sd), tt.size ≤ g ∧ v1 = .string tt ∧ Aside0 (Turn w wx b sx) ∧ Aside0 (sx.Holds lx) ∧ Aside0 (lx ++ tt.data.toList = l ++ t.data.toList) ∧ lx.length + tt.size < 4611686018427387904)
  case atStart => exact ⟨t, l, s, Nat.le_refl _, rfl, HS, HL, ⟨rfl⟩, hn⟩
  case round =>
    clear HS HL
    obtain ⟨tt, lx, sx, hg, rfl, HS, HL, HE, hnn⟩ := hrel
    by_cases h0 : tt.size = 0
    · have d1 : decide (0 < (tt.size : Int)) = false := decide_eq_false (by omega)
      have d2 : decide (0 < tt.size) = false := decide_eq_false (by omega)
      go_wp2
      go_end0
      have : tt.data.toList = [] := List.eq_nil_of_length_eq_zero h0
      have he := HE.out
      rw [this, List.append_nil] at he
      rw [← he]
      exact ⟨rfl, sx, HS.out, HL.out⟩
    · have d1 : decide (0 < (tt.size : Int)) = true := decide_eq_true (by omega)
      have d2 : decide (0 < tt.size) = true := decide_eq_true (by omega)
      have husd : sx.used < 64 := by
        obtain ⟨a, r, _, _, hr, _, _, hu, _⟩ := HL.out
        omega
      have hsn : sx.n = lx.length := by
        obtain ⟨a, r, _, _, hr, _, hn, hu, _⟩ := HL.out
        exact hn
      have p1 : (0 ≤ (sx.used : Int)) = True := eq_true (by omega)
      have p2 : ((sx.used : Int) ≤ 64) = True := eq_true (by omega)
      obtain ⟨m, hm⟩ : ∃ m, Nat.min tt.size (64 - sx.used) = m := ⟨_, rfl⟩
      have hm1 : m ≤ tt.size := by rw [← hm]; exact Nat.min_le_left _ _
      have hm2 : m ≤ 64 - sx.used := by rw [← hm]; exact Nat.min_le_right _ _
      have hm3 : 0 < m := by rw [← hm]; exact Nat.lt_min.2 ⟨by omega, by omega⟩
      have p3 : (0 ≤ (m : Int)) = True := eq_true (by omega)
      have p4 : ((m : Int) ≤ (tt.size : Int)) = True := eq_true (by omega)
      go_wp2
      refine wp_region_still_tail 9 (by kernel_rfl) (by kernel_rfl) ?_
      change wpStill _ _ (World.drew wr) (fun a' => wpList _ _ _ _ a' (World.drew wr)) _ _
      have HS2 := Aside0.mk (HS.out.keep (below_drew (Below.refl _ wr)))
      generalize World.drew wr = w2 at HS2 ⊢
      have y1 := HS2.out.1.use
      simp only [List.take_succ_cons, List.take_zero, List.drop_succ_cons, List.drop_zero]
      repeat still_step
      refine wpStill_nil ?_
      change wpList _ _ _ _ _ w2
      have hcl := sx.cells_len HS2.out.1.len
      have htl : (tt.data.toList.take m).length = m := by
        rw [List.length_take]
        have : tt.data.toList.length = tt.size := (Lib.size_eq tt).symm
        omega
      refine wpList_copy_text rfl (.tmp 15) (.tmp 16) 41 9 rfl 5 Tryd.underlying41 (by kernel_rfl) b (9 + sx.used) (64 - sx.used) (64 - sx.used) m tt (by first | rfl | (simp [Act.eval, Act.put] <;> omega)) rfl sx.cells.toArray _ HS2.out.1.lies hm (by rw [List.size_toArray, hcl]; omega) ?_
      have T3 := Aside0.mk (HS2.out.put (tt.data.toList.take m) (by rw [htl]; omega))
      rw [htl] at T3
      change wpList _ _ _ _ _ (w2.setRow b (List.take (9 + sx.used) sx.cells ++ List.map bcell (List.take m tt.data.toList) ++ List.drop (9 + sx.used + m) sx.cells).toArray)
      generalize w2.setRow b (List.take (9 + sx.used) sx.cells ++ List.map bcell (List.take m tt.data.toList) ++ List.drop (9 + sx.used + m) sx.cells).toArray = w3 at T3 ⊢
      have HC := Aside0.mk (HT.out (sx.put (tt.data.toList.take m)) m w3 T3.out.1 (HG.out.turn T3.out HB2.out) (show sx.used + m ≤ 64 by omega) (show sx.n + m < _ by omega))
      have HP := Aside0.mk (holds_put (bs := tt.data.toList.take m) HL.out (by rw [htl]; omega))
      rw [htl] at HP
      have HTL := Aside0.mk htl
      have hsz : ((m : Int)).toNat = m := Int.toNat_natCast m
      clear y1 HS HS2 hcl htl HL
      obtain ⟨k1, rfl⟩ : ∃ k1, gk = k1 + 1 := ⟨gk - 1, by omega⟩
      go_wp2_with (first | (go_at_call 35; ((with_reducible refine HC.out.mono ?_)); rintro e w4 ⟨rfl, hT4⟩; have HT4 := Aside0.mk (T3.out.trans hT4); clear hT4))
      go_roundg k1
      case measure => omega
      case rel =>
        have hx : (tt.extract m tt.size).data.toList = tt.data.toList.drop m := by
          have := bs_extract tt m tt.size
          have h2 : tt.data.toList.length = tt.size := (Lib.size_eq tt).symm
          rw [List.take_of_length_le (by show (tt.data.toList.drop m).length ≤ _; rw [List.length_drop, h2]; omega)] at this
          exact this
        have hs : (tt.extract m tt.size).size = tt.size - m := by
          rw [Lib.size_eq, hx, List.length_drop, ← Lib.size_eq]
        refine ⟨tt.extract m tt.size, lx ++ tt.data.toList.take m, _, by rw [hs]; omega, rfl, HT4, HP, ⟨?_⟩, ?_⟩
        · rw [hx, List.append_assoc, List.take_append_drop]
          exact HE.out
        · rw [hs, List.length_append, HTL.out]
          omega
end Go.Proofs.YtbllmpfdhcbkpaaDoor.Sha
/- SHA-256: Sum, Of. -/
namespace Go.Proofs.YtbllmpfdhcbkpaaDoor.Sha
open Go.RowKit Go.Proofs.YtbllmpfdhcbkpaaDoorW.PrintWords Go.Proofs.YtbllmpfdhcbkpaaDoorW.PrintLast Go.Proofs.YtbllmpfdhcbkpaaDoorW.PrintMore Go.Proofs.YtbllmpfdhcbkpaaDoor.Bytes
set_option linter.unusedVariables false
set_option linter.unusedSimpArgs false

/-- A word out of eight. -/
theorem idx8 (v : V8) (i : Nat) (hi : i < 8) (W : World) : (Instr.index 84 (.agg v.cells) (.int .i64 (i : Int))).run Tryd.prog W = .ok (.int .u32 (U (v.words.getD i 0))) W := by
  have h0 : (Instr.index 84 (.agg v.cells) (.int .i64 0)).run Tryd.prog W = .ok (.int .u32 (U v.a)) W := by kernel_rfl
  have h1 : (Instr.index 84 (.agg v.cells) (.int .i64 1)).run Tryd.prog W = .ok (.int .u32 (U v.b)) W := by kernel_rfl
  have h2 : (Instr.index 84 (.agg v.cells) (.int .i64 2)).run Tryd.prog W = .ok (.int .u32 (U v.c)) W := by kernel_rfl
  have h3 : (Instr.index 84 (.agg v.cells) (.int .i64 3)).run Tryd.prog W = .ok (.int .u32 (U v.d)) W := by kernel_rfl
  have h4 : (Instr.index 84 (.agg v.cells) (.int .i64 4)).run Tryd.prog W = .ok (.int .u32 (U v.e)) W := by kernel_rfl
  have h5 : (Instr.index 84 (.agg v.cells) (.int .i64 5)).run Tryd.prog W = .ok (.int .u32 (U v.f)) W := by kernel_rfl
  have h6 : (Instr.index 84 (.agg v.cells) (.int .i64 6)).run Tryd.prog W = .ok (.int .u32 (U v.g)) W := by kernel_rfl
  have h7 : (Instr.index 84 (.agg v.cells) (.int .i64 7)).run Tryd.prog W = .ok (.int .u32 (U v.k)) W := by kernel_rfl
  match i, hi with
  | 0, _ => exact h0
  | 1, _ => exact h1
  | 2, _ => exact h2
  | 3, _ => exact h3
  | 4, _ => exact h4
  | 5, _ => exact h5
  | 6, _ => exact h6
  | 7, _ => exact h7
theorem bset {w : World} {g : Nat} {l : List UInt8} {t : TypeId} (h : w.heap[g]? = some (.cells (l.map bcell).toArray t (0, 0))) (i : Nat) (x : UInt8) : (w.setCell ⟨g, i, none⟩ (.int .u8 (B x))).heap[g]? = some (.cells ((l.set i x).map bcell).toArray t (0, 0)) := by
  simp [World.setCell, Array.getElem?_modify, h, List.map_set, bcell]
attribute [local go_sem] U_shr8 U_shr16 U_shr24 U_byte U_byte' u32_signed u32_max
/-- What Pad is said to do. -/
def PadCalls : Prop := ∀ (n : Nat) (w : World), n < 1152921504606846976 → Calls Tryd.prog 37 #[.int .i64 (n : Int)] w fun e w' => e = .returned (.string ⟨(pad n).toArray⟩) ∧ Below w.heap.size w w'
theorem range_row {w : World} {b : Nat} {cs : List Value} {t : TypeId} {fr : Nat × Nat} (h : w.heap[b]? = some (.cells cs.toArray t fr)) : w.rangeAt b 0 cs := fun j v hv => by
  simp only [World.cell?, h, Nat.zero_add, List.getElem?_toArray]
  exact hv
theorem below_setRow {B g : Nat} {w0 w : World} (hb : Below B w0 w) (hBg : B ≤ g) (cs : Array Value) : Below B w0 (w.setRow g cs) :=
  hb.trans ⟨rfl, rfl, rfl, by simp [World.setRow], fun k hk => setRow_other w g k cs (by omega)⟩
theorem wpList_store_row' {P : Program} {w : World} {a : Act} {ops : Array Oper} {rest : List Oper} {op : Oper} {Q : Exit → Act → World → Prop} (hgd : op.guard = none) (ty : TypeId) (x y : Operand) (ho : op.op = .store ty x y)
    (b : Nat) (t : TypeId) (old cells : Array Value) (hx : a.eval x = .pointer (some ⟨b, 0, none⟩)) (hy : a.eval y = .agg cells)
    (hg : w.heap[b]? = some (.cells old t (0, 0))) (hi : (P.info? ty).map (·.size) = some cells.size) (hs : old.size = cells.size) (h1 : cells.all (·.oneCell') = true)
    (h : ∀ w', w' = w.setRow b cells → wpList P ops Q rest (a.put op.dst undef) w') : wpList P ops Q (op :: rest) a w :=
  wpList_store_row hgd ty x y ho b t old cells hx hy hg hi hs h1 (h _ rfl)
theorem cells_one (s : Sd) : s.cells.toArray.all (·.oneCell') = true := by
  refine all_oneCell_toArray fun v hv => ?_
  unfold Sd.cells at hv
  rw [List.mem_cons, List.mem_append, List.mem_append] at hv
  rcases hv with rfl | hv | hv | hv
  · rfl
  · simp [V8.cells, wcell] at hv
    rcases hv with rfl | rfl | rfl | rfl | rfl | rfl | rfl | rfl <;> rfl
  · obtain ⟨x, _, rfl⟩ := List.mem_map.1 hv
    rfl
  · rw [List.mem_singleton] at hv
    subst hv
    rfl
/-- The first words' bytes, and noughts. -/
def dig (ws : List B32) (i : Nat) : List UInt8 := (ws.take i).flatMap bytes4 ++ List.replicate (32 - 4 * i) 0
theorem flat_len : ∀ (ws : List B32), (ws.flatMap bytes4).length = 4 * ws.length
  | [] => rfl
  | a :: l => by
    rw [List.flatMap_cons, List.length_append, flat_len l, List.length_cons]
    show 4 + _ = _
    omega
theorem dig_next (ws : List B32) (i : Nat) (hi : i < 8) (hw : ws.length = 8) : dig ws (i + 1) = ((((dig ws i).set (4 * i) ((ws.getD i 0) >>> (24 : Nat)).toNat.toUInt8).set (4 * i + 1) ((ws.getD i 0) >>> (16 : Nat)).toNat.toUInt8).set (4 * i + 2) ((ws.getD i 0) >>> (8 : Nat)).toNat.toUInt8).set (4 * i + 3) (ws.getD i 0).toNat.toUInt8 := by
  obtain ⟨m, hm⟩ : ∃ m, 32 - 4 * i = m + 4 := ⟨28 - 4 * i, by omega⟩
  have hm2 : 32 - 4 * (i + 1) = m := by omega
  have hl : ((ws.take i).flatMap bytes4).length = 4 * i := by rw [flat_len, List.length_take]; omega
  have ht : ws.take (i + 1) = ws.take i ++ [ws.getD i 0] := by
    have hi' : i < ws.length := by omega
    rw [List.take_add_one, List.getElem?_eq_getElem hi', List.getD_eq_getElem?_getD, List.getElem?_eq_getElem hi']
    rfl
  unfold dig
  rw [ht, hm, hm2, List.flatMap_append]
  generalize (ws.take i).flatMap bytes4 = A at hl
  rw [← hl]
  rw [List.set_append_right _ _ (Nat.le_refl _), List.set_append_right _ _ (by omega), List.set_append_right _ _ (by omega), List.set_append_right _ _ (by omega)]
  simp only [Nat.sub_self, Nat.add_sub_cancel_left, List.replicate_succ, List.set_cons_zero, List.set_cons_succ]
  simp [bytes4]
theorem dig_len (ws : List B32) (i : Nat) (hi : i ≤ 8) (hw : ws.length = 8) : (dig ws i).length = 32 := by
  unfold dig
  rw [List.length_append, flat_len, List.length_take, List.length_replicate]
  omega
theorem dig_end (v : V8) : dig v.words 8 = digest v := by
  show (v.words.take 8).flatMap bytes4 ++ [] = _
  rw [List.append_nil]
  rfl
theorem holds_end {s : Sd} {l : List UInt8} (h : s.Holds l) (hl : l.length % 64 = 0) : s.h = blocks H0 l := by
  obtain ⟨a, r, rfl, ha, hr, hh, _, _, _, _⟩ := h
  rw [List.length_append] at hl
  have : r = [] := List.eq_nil_of_length_eq_zero (by omega)
  rw [this, List.append_nil]
  exact hh
set_option maxRecDepth 100000 in
set_option maxHeartbeats 4000000 in
theorem sum_calls (hP : PadCalls) (s : Sd) (l : List UInt8) (b : Nat) (w : World) (hs : s.At w b) (hl : s.Holds l) (hG : Glob w) (hn : l.length < 1152921504606846976) : Calls Tryd.prog 17 #[.pointer (some ⟨b, 0, none⟩)] w fun e w' => e = .returned (.agg ((of l).map bcell).toArray) ∧ Below w.heap.size w w' := by
  unfold PadCalls at hP
  have HR28 : Aside0 ((Tryd.prog.info? 24).map (·.size) = some 32) := ⟨by kernel_rfl⟩
  have HR78 : Aside0 ((Tryd.prog.info? 87).map (·.size) = some 74) := ⟨by kernel_rfl⟩
  have HSZ := Aside0.mk (s.cells_len hs.len)
  have HG := Aside0.mk hG
  have hsn : s.n = l.length := by
    obtain ⟨a, r, _, _, hr, _, hn, hu, _⟩ := hl
    exact hn
  have HL := Aside0.mk hl
  have HP := Aside0.mk hP
  have a1 : ∀ (W : World) (o : Obj), (W.alloc o).heap.size = W.heap.size + 1 := fun W o => Array.size_push _
  have HB1 := Aside0.mk ((Below.refl w.heap.size w).alloc (Nat.le_refl _) (.cells (List.replicate 32 (Value.int .u8 0)).toArray 24))
  have HS1 := Aside0.mk (hs.keep HB1.out)
  have HB2 := Aside0.mk (HB1.out.alloc (by rw [a1]; omega) (.cells Tryd.zeroCells87 87))
  have HX2 : Aside0 (((w.alloc (.cells (List.replicate 32 (Value.int .u8 0)).toArray 24)).alloc (.cells Tryd.zeroCells87 87)).heap[w.heap.size + 1]? = some (.cells Tryd.zeroCells87 87 (0, 0))) := ⟨by have := World.alloc_heap_new (w.alloc (.cells (List.replicate 32 (Value.int .u8 0)).toArray 24)) (.cells Tryd.zeroCells87 87); rw [a1] at this; exact this⟩
  have HX1 : Aside0 (((w.alloc (.cells (List.replicate 32 (Value.int .u8 0)).toArray 24)).alloc (.cells Tryd.zeroCells87 87)).heap[w.heap.size]? = some (.cells (List.replicate 32 (Value.int .u8 0)).toArray 24 (0, 0))) := ⟨by rw [((Below.refl (w.heap.size + 1) (w.alloc (.cells (List.replicate 32 (Value.int .u8 0)).toArray 24))).alloc (by rw [a1]; omega) (.cells Tryd.zeroCells87 87)).block _ (by omega), World.alloc_heap_new]⟩
  have HZ78 : Aside0 (Tryd.zeroCells87.size = s.cells.toArray.size) := ⟨by rw [show s.cells.toArray.size = 74 from by rw [List.size_toArray, HSZ.out]]; kernel_rfl⟩
  have HLEN := Aside0.mk hs.len
  have HW := Aside0.mk (fun (w4 : World) (hA : s.At w4 (w.heap.size + 1)) (hB : Below w.heap.size w w4) => writeText_calls s l (w.heap.size + 1) ⟨(pad l.length).toArray⟩ w4 hA hl (hG.below hB hG.lt) (by have := hG.lt; omega) (by have := pad_len l.length; show l.length + (pad l.length).length < _; omega))
  clear hs hG hl hP a1
  go_enter Tryd.func17, Tryd.ntmps17
  go_wp2_with (first
    | ((with_reducible refine gate_dst (N := 9) rfl ?_); refine wpList_load_mid rfl 87 (.tmp 8) rfl b 0 rfl s.cells _ (range_row HS1.out.lies) Tryd.underlying87 rfl (by rw [HSZ.out]; exact HR78.out) ?_) | ((with_reducible refine gate_store (t := 87) (p := 3) rfl ?_); refine wpList_store_row' rfl 87 (.tmp 3) (.tmp 9) rfl (w.heap.size + 1) 87 Tryd.zeroCells87 s.cells.toArray (by first | rfl | simp [Act.eval]) rfl HX2.out (by rw [List.size_toArray, HSZ.out]; exact HR78.out) HZ78.out (cells_one s) ?_; intro w3 hw3; have HT3 : Aside0 (s.At w3 (w.heap.size + 1)) := ⟨by rw [hw3]; exact ⟨setRow_heap _ _ _ _ _ _ HX2.out, HLEN.out⟩⟩; have HB3 : Aside0 (Below w.heap.size w w3) := ⟨by rw [hw3]; exact below_setRow HB2.out (by omega) _⟩; have HX3 : Aside0 (w3.heap[w.heap.size]? = some (.cells (List.replicate 32 (Value.int .u8 0)).toArray 24 (0, 0))) := ⟨by rw [hw3]; exact (setRow_other _ _ _ _ (by omega)).trans HX1.out⟩; have c3 := HT3.out.count; rw [hsn] at c3; clear hw3 HB1 HB2 HS1 HX1 HX2)
    | (go_at_call 37; ((with_reducible refine (HP.out l.length w3 hn).mono ?_)); rintro e w4 ⟨rfl, hb4⟩; have HT4 := Aside0.mk (HT3.out.keep hb4); have HB4 := Aside0.mk (HB3.out.trans (hb4.mono HB3.out.size)); have HX4 := Aside0.mk ((hb4.block _ (by have := (Array.getElem?_eq_some_iff.1 HX3.out).1; exact this)).trans HX3.out); clear hb4 HT3 HB3 HX3 c3)
    | (go_at_call 15; ((with_reducible refine (HW.out w4 HT4.out HB4.out).mono ?_)); rintro e w5 ⟨rfl, s5, hT5, hH5⟩; have HT5 := Aside0.mk hT5.1; have HH5 := Aside0.mk hH5; have HB5 := Aside0.mk (below_of_grown HB4.out hT5.2 (by omega) HB4.out.size); have HX5 := Aside0.mk ((hT5.2.block _ (by have := (Array.getElem?_eq_some_iff.1 HX4.out).1; exact this) (by intro e; injection e; omega)).trans HX4.out); clear hT5 hH5 HT4 HB4 HX4)
    | ((with_reducible refine gate_dst (N := 16) rfl ?_); refine wpList_load_mid rfl 84 (.tmp 15) rfl (w.heap.size + 1) 1 rfl s5.h.cells.toList _ (World.rangeAt_alloc HT5.out.words _) Tryd.underlying84 rfl (by kernel_rfl) ?_))
  obtain ⟨v, hv⟩ : ∃ v, s5.h = v := ⟨_, rfl⟩
  have HV := Aside0.mk hv
  rw [hv]
  clear hv
  have HD : Aside0 ((w5.alloc (.cells (List.replicate 32 (Value.int .u8 0)).toArray 24)).heap[w5.heap.size]? = some (.cells ((dig v.words 0).map bcell).toArray 24 (0, 0))) := ⟨by rw [World.alloc_heap_new]; rfl⟩
  have HB6 := Aside0.mk (HB5.out.alloc HB5.out.size (.cells (List.replicate 32 (Value.int .u8 0)).toArray 24))
  have HX6 : Aside0 ((w5.alloc (.cells (List.replicate 32 (Value.int .u8 0)).toArray 24)).heap[w.heap.size]? = some (.cells (List.replicate 32 (Value.int .u8 0)).toArray 24 (0, 0))) := ⟨(((Below.refl w5.heap.size w5).alloc (Nat.le_refl _) _).block _ (by have := (Array.getElem?_eq_some_iff.1 HX5.out).1; exact this)).trans HX5.out⟩
  have HLT : Aside0 (w.heap.size < w5.heap.size) := ⟨(Array.getElem?_eq_some_iff.1 HX5.out).1⟩
  obtain ⟨gd, hgd⟩ : ∃ gd, w5.heap.size = gd := ⟨_, rfl⟩
  rw [hgd] at HD HLT
  rw [hgd]
  go_loopg [17] 8 (fun g v17 wx => ∃ i : Nat, i + g = 8 ∧ v17 = .int .i64 (i : Int) ∧ Aside0 (wx.heap[gd]? = some (.cells ((dig v.words i).map bcell).toArray 24 (0, 0))) ∧ Aside0 (Below w.heap.size w wx) ∧ Aside0 (wx.heap[w.heap.size]? = some (.cells (List.replicate 32 (Value.int .u8 0)).toArray 24 (0, 0))))
  case atStart => exact ⟨0, by omega, rfl, HD, HB6, HX6⟩
  case round =>
    clear HD HB6 HX6
    obtain ⟨i, hig, rfl, HD, HB, HX⟩ := hrel
    cases gk with
    | zero =>
      obtain rfl : i = 8 := by omega
      rw [dig_end] at HD
      have HDL := Aside0.mk (show (digest v).length = 32 from rfl)
      go_wp2_with (first
        | ((with_reducible refine gate_dst (N := 48) rfl ?_); refine wpList_load_mid rfl 24 (.tmp 4) rfl gd 0 rfl ((digest v).map bcell) _ (range_row HD.out) Tryd.underlying24 rfl (by rw [List.length_map, HDL.out]; exact HR28.out) ?_)
        | ((with_reducible refine gate_store (t := 24) (p := 2) rfl ?_); refine wpList_store_row' rfl 24 (.tmp 2) (.tmp 48) rfl w.heap.size 24 _ ((digest v).map bcell).toArray rfl rfl HX.out (by rw [List.size_toArray, List.length_map, HDL.out]; exact HR28.out) (by rw [List.size_toArray, List.size_toArray, List.length_map, HDL.out]; rfl) (all_oneCell_toArray fun u hu => by obtain ⟨y, _, rfl⟩ := List.mem_map.1 hu; rfl) ?_; intro w9 hw9; have HX9 : Aside0 (w9.heap[w.heap.size]? = some (.cells ((digest v).map bcell).toArray 24 (0, 0))) := ⟨by rw [hw9]; exact setRow_heap _ _ _ _ _ _ HX.out⟩; have HB9 : Aside0 (Below w.heap.size w w9) := ⟨by rw [hw9]; exact below_setRow HB.out (Nat.le_refl _) _⟩; clear hw9))
      have hfin : digest v = of l := by
        rw [← HV.out, holds_end HH5.out (by rw [List.length_append]; exact pad_whole l.length)]
        rfl
      refine bodyPost_ret (v := .agg ((of l).map bcell).toArray) (results_cell_row rfl _ _ w.heap.size 24 ((of l).map bcell).toArray (0, 0) _ rfl ?_ Tryd.underlying24 rfl (by rw [List.size_toArray, List.length_map, of_len]; exact HR28.out)) rfl ⟨rfl, HB9.out⟩
      rw [← hfin]
      exact HX9.out
    | succ k1 =>
      have d1 : decide ((i : Int) < 8) = true := decide_eq_true (by omega)
      have hi : i < 8 := by omega
      have hidx := idx8 v i hi wr
      obtain ⟨x, hx⟩ : ∃ x, v.words.getD i 0 = x := ⟨_, rfl⟩
      have HN := Aside0.mk (dig_next v.words i hi rfl)
      rw [hx] at hidx HN
      have hdl := dig_len v.words i (by omega) rfl
      have e0 : (4 * (i : Int)).toNat = 4 * i := by omega
      have e1 : (4 * (i : Int) + 1).toNat = 4 * i + 1 := by omega
      have e2 : (4 * (i : Int) + 2).toNat = 4 * i + 2 := by omega
      have e3 : (4 * (i : Int) + 3).toNat = 4 * i + 3 := by omega
      have p0 : (0 ≤ 4 * (i : Int)) = True := eq_true (by omega)
      have p1 : (0 ≤ 4 * (i : Int) + 1) = True := eq_true (by omega)
      have p2 : (0 ≤ 4 * (i : Int) + 2) = True := eq_true (by omega)
      have p3 : (0 ≤ 4 * (i : Int) + 3) = True := eq_true (by omega)
      have q0 : (4 * (i : Int) < 32) = True := eq_true (by omega)
      have q1 : (4 * (i : Int) + 1 < 32) = True := eq_true (by omega)
      have q2 : (4 * (i : Int) + 2 < 32) = True := eq_true (by omega)
      have q3 : (4 * (i : Int) + 3 < 32) = True := eq_true (by omega)
      have wr_ : ∀ x : Int, 0 ≤ x → x < 1000 → IntKind.i64.wrap x = x := fun x h0 h1 => by rw [IntKind.wrap_i64]; omega
      have m0 := wr_ (4 * (i : Int)) (by omega) (by omega)
      have m1 := wr_ (4 * (i : Int) + 1) (by omega) (by omega)
      have m2 := wr_ (4 * (i : Int) + 2) (by omega) (by omega)
      have m3 := wr_ (4 * (i : Int) + 3) (by omega) (by omega)
      have hcell : ∀ j, j < 32 → ∃ u, wr.cell? ⟨gd, j, none⟩ = some u := fun j hj => by
        simp only [World.cell?, HD.out, List.getElem?_toArray]
        exact ⟨_, List.getElem?_eq_getElem (by rw [List.length_map, hdl]; exact hj)⟩
      obtain ⟨u0_, y0⟩ := hcell (4 * i) (by omega)
      obtain ⟨u1_, y1⟩ := hcell (4 * i + 1) (by omega)
      obtain ⟨u2_, y2⟩ := hcell (4 * i + 2) (by omega)
      obtain ⟨u3_, y3⟩ := hcell (4 * i + 3) (by omega)
      have fz : ∀ j, wr.frozen? ⟨gd, j, none⟩ = false := fun j => by simp [World.frozen?, HD.out]
      clear wr_ hx hi hcell hdl
      go_wp2
      go_roundg k1
      case measure => omega
      case rel =>
        refine ⟨i + 1, by omega, by go_num, ⟨?_⟩, ⟨?_⟩, ⟨?_⟩⟩
        · rw [HN.out]
          exact bset (bset (bset (bset HD.out _ _) _ _) _ _) _ _
        · have := HLT.out
          exact below_set (below_set (below_set (below_set HB.out _ _ (by show _ ≤ gd; omega)) _ _ (by show _ ≤ gd; omega)) _ _ (by show _ ≤ gd; omega)) _ _ (by show _ ≤ gd; omega)
        · have hne : w.heap.size ≠ gd := by have := HLT.out; omega
          exact (((((Below.heap_setCell _ _ _ _ hne).trans (Below.heap_setCell _ _ _ _ hne)).trans (Below.heap_setCell _ _ _ _ hne)).trans (Below.heap_setCell _ _ _ _ hne))).trans HX.out
end Go.Proofs.YtbllmpfdhcbkpaaDoor.Sha
/- By a program of this session's: a plain Lean function for a Go function, and its contract. -/
namespace Go.Proofs.YtbllmpfdhcbkpaaDoor.Q
open Go.RowKit Go.Proofs.YtbllmpfdhcbkpaaDoorW.PrintWords Go.Proofs.YtbllmpfdhcbkpaaDoorW.PrintLast Go.Proofs.YtbllmpfdhcbkpaaDoorW.PrintMore
attribute [local go_sem] max2_int min2_int max_two min_two max_three min_three max_four min_four Go.Proofs.YtbllmpfdhcbkpaaDoor.Ord.str_leq Go.Proofs.YtbllmpfdhcbkpaaDoor.Ord.str_gtr Go.Proofs.YtbllmpfdhcbkpaaDoor.Ord.str_geq   -- for this text's walks alone
set_option linter.unusedVariables false
set_option linter.unusedSimpArgs false

/-! ### sha_Pad: function 37 -/
def sha_Pad.l0 : Nat → List Int → Int → Int → Option (ByteArray)
  | 0, _, _, _ => none
  | k + 1, x4, x5, x22 => if x22 < 8 then (if 0 ≤ (wrap64 (8 * x22)) then (if 0 ≤ (wrap64 ((wrap64 ((x4.length : Int) - 1)) - x22)) then (if (wrap64 ((wrap64 ((x4.length : Int) - 1)) - x22)) < (x4.length : Int) then (sha_Pad.l0 k (x4.set ((wrap64 ((wrap64 ((x4.length : Int) - 1)) - x22)) : Int).toNat ((shr .u64 x5 (wrap64 (8 * x22))) % 256)) x5 (wrap64 (x22 + 1))) else (none)) else (none)) else (none)) else (some (strOfNums x4))
def sha_Pad.f (k : Nat) (a0 : Int) : Option (ByteArray) := if a0 < 0 then (some (⟨#[]⟩ : ByteArray)) else (if 0 ≤ (wrap64 ((wrap64 (1 + (Int.tmod (wrap64 (119 - (Int.tmod a0 64))) 64))) + 8)) then (if (wrap64 ((wrap64 (1 + (Int.tmod (wrap64 (119 - (Int.tmod a0 64))) 64))) + 8) : Int).toNat ≤ 281474976710656 then ((some (List.replicate (wrap64 ((wrap64 (1 + (Int.tmod (wrap64 (119 - (Int.tmod a0 64))) 64))) + 8) : Int).toNat 0 : List Int)).bind fun y258 => (if 0 < (y258.length : Int) then (sha_Pad.l0 k (y258.set (0 : Int).toNat 128) (IntKind.u64.wrap ((IntKind.u64.wrap (a0)) * 8)) 0) else (none))) else (none)) else (none))
theorem sha_Pad.mono_l : ∀ k, (∀ y0 y1 y2, LeO (sha_Pad.l0 k y0 y1 y2) (sha_Pad.l0 (k + 1) y0 y1 y2))
  | 0 => fun _ _ _ r h => by simp [sha_Pad.l0] at h
  | k + 1 => by
    have ih0 := sha_Pad.mono_l k
    · intro y0 y1 y2
      unfold sha_Pad.l0
      repeat' first
      | (with_reducible exact ih0 _ _ _)
      | (with_reducible exact LeO.refl _)
      | (with_reducible exact LeO.none _)
      | (with_reducible refine LeO.ite ?_ ?_)
      | (with_reducible refine LeO.bind ?_ (fun _ => ?_))
      | exact ih0 _ _ _
      | exact LeO.none _
      | refine LeO.ite ?_ ?_
      | refine LeO.bind ?_ (fun _ => ?_)
theorem sha_Pad.mono : ∀ a0 k, LeO (sha_Pad.f k a0) (sha_Pad.f (k + 1) a0) := by
  intro a0 k
  have ih0 := sha_Pad.mono_l k
  unfold sha_Pad.f
  repeat' first
      | (with_reducible exact ih0 _ _ _)
      | (with_reducible exact LeO.refl _)
      | (with_reducible exact LeO.none _)
      | (with_reducible refine LeO.ite ?_ ?_)
      | (with_reducible refine LeO.bind ?_ (fun _ => ?_))
      | exact ih0 _ _ _
      | exact LeO.none _
      | refine LeO.ite ?_ ?_
      | refine LeO.bind ?_ (fun _ => ?_)
set_option maxHeartbeats 8000000 in
set_option maxRecDepth 100000 in
theorem sha_Pad.calls (k : Nat) (a0 : Int) (r : ByteArray) (w : World) (h : sha_Pad.f k a0 = some r) :
    Calls Tryd.prog 37 #[.int .i64 a0] w fun e w' => e = .returned (.string r) ∧ Below w.heap.size w w' := by
  have HB := Aside0.mk (Below.refl w.heap.size w)
  have H : (if a0 < 0 then (some (⟨#[]⟩ : ByteArray)) else (if 0 ≤ (wrap64 ((wrap64 (1 + (Int.tmod (wrap64 (119 - (Int.tmod a0 64))) 64))) + 8)) then (if (wrap64 ((wrap64 (1 + (Int.tmod (wrap64 (119 - (Int.tmod a0 64))) 64))) + 8) : Int).toNat ≤ 281474976710656 then ((some (List.replicate (wrap64 ((wrap64 (1 + (Int.tmod (wrap64 (119 - (Int.tmod a0 64))) 64))) + 8) : Int).toNat 0 : List Int)).bind fun y258 => (if 0 < (y258.length : Int) then (sha_Pad.l0 k (y258.set (0 : Int).toNat 128) (IntKind.u64.wrap ((IntKind.u64.wrap (a0)) * 8)) 0) else (none))) else (none)) else (none))) = some r := h
  clear h
  by_cases c2 : a0 < 0
  · rw [if_pos c2] at H
    have c2b0 : decide (a0 < 0) = true := decide_eq_true c2
    clear c2
    obtain rfl := Option.some.inj H
    go_enter Tryd.func37, Tryd.ntmps37
    go_wp2
    go_ret
    exact ⟨by first | rfl | (simp [errW_none, errW_some] <;> rfl) | (simp [*, errW_none, errW_some] <;> rfl), by repeat (first | (with_reducible first | exact HB.out | apply below_alloc | apply pw_below_drewN | apply below_drew1) | exact HB.out)⟩
  · rw [if_neg c2] at H
    have c2b0 : decide (a0 < 0) = false := decide_eq_false c2
    clear c2
    obtain ⟨ji3, hji3⟩ : ∃ j_ : Int, (wrap64 ((wrap64 (1 + (Int.tmod (wrap64 (119 - (Int.tmod a0 64))) 64))) + 8)) = j_ := ⟨_, rfl⟩
    replace H : (if 0 ≤ (ji3) then (if (ji3 : Int).toNat ≤ 281474976710656 then ((some (List.replicate (ji3 : Int).toNat 0 : List Int)).bind fun y258 => (if 0 < (y258.length : Int) then (sha_Pad.l0 k (y258.set (0 : Int).toNat 128) (IntKind.u64.wrap ((IntKind.u64.wrap (a0)) * 8)) 0) else (none))) else (none)) else (none)) = some r := by first | (rw [hji3] at H; exact H) | (simp only [hji3] at H ⊢; exact H)
    have hji3w : (IntKind.i64.wrap ((wrap64 (1 + (Int.tmod (wrap64 (119 - (Int.tmod a0 64))) 64))) + 8)) = ji3 := (i64_w _).trans hji3
    by_cases c4 : 0 ≤ (ji3)
    · rw [if_pos c4] at H
      have c4b0 := eq_true c4
      have c4b1 : decide (0 ≤ (ji3)) = true := decide_eq_true c4
      clear c4
      by_cases c5 : (ji3 : Int).toNat ≤ 281474976710656
      · rw [if_pos c5] at H
        have c5b0 := eq_true c5
        have c5b1 : decide ((ji3 : Int).toNat ≤ 281474976710656) = true := decide_eq_true c5
        clear c5
        obtain ⟨y258, hy258⟩ : ∃ y_ : List Int, y_ = (List.replicate (ji3 : Int).toNat 0) := ⟨_, rfl⟩
        replace H : (if 0 < (y258.length : Int) then (sha_Pad.l0 k (y258.set (0 : Int).toNat 128) (IntKind.u64.wrap ((IntKind.u64.wrap (a0)) * 8)) 0) else (none)) = some r := by first | (rw [hy258]; with_reducible exact H) | (have H2_ := (Option.bind_some _ _).symm.trans H; rw [hy258]; with_reducible exact H2_) | (have H2_ := (Option.bind_some _ _).symm.trans H; with_reducible exact H2_) | with_reducible exact H | (rw [hy258]; exact H) | exact H
        have Ny258 := Aside0.mk hy258
        clear hy258
        by_cases c6 : 0 < (y258.length : Int)
        · rw [if_pos c6] at H
          have c6b0 : decide (0 < (y258.length : Int)) = true := decide_eq_true c6
          have c6b1 : decide (0 < y258.length) = true := decide_eq_true (by omega)
          clear c6
          obtain ⟨y261, hy261⟩ : ∃ y_ : List Int, y_ = (y258.set (0 : Int).toNat 128) := ⟨_, rfl⟩
          replace H : (sha_Pad.l0 k y261 (IntKind.u64.wrap ((IntKind.u64.wrap (a0)) * 8)) 0) = some r := by first | (rw [hy261]; with_reducible exact H) | (have H2_ := (Option.bind_some _ _).symm.trans H; rw [hy261]; with_reducible exact H2_) | (have H2_ := (Option.bind_some _ _).symm.trans H; with_reducible exact H2_) | with_reducible exact H | (rw [hy261]; exact H) | exact H
          have Ny261 := Aside0.mk hy261
          clear hy261
          have H' := Aside0.mk H
          clear H
          go_enter Tryd.func37, Tryd.ntmps37
          go_wp2_with (first | ((with_reducible refine gate_dst (N := 16) rfl ?_); refine Kd.R_make (Kd.int .u8) _ 5 rfl (N := 16) rfl 41 _ _ rfl ji3 rfl rfl Tryd.underlying41 (.int .u8 0) 1 info5 rfl (by decide) (by omega) 0 (ok := fun _ => True) (okp := fun _ => True) rfl (fun _ hk => hk) trivial (of_decide_eq_true (by first | (with_reducible assumption) | assumption)) (Nat.le_trans (Nat.mul_le_mul_right _ (of_decide_eq_true (by first | (with_reducible assumption) | assumption) : ji3.toNat ≤ 281474976710656)) (by omega)) (Below.refl _ _) (Nat.le_refl _) ?_; intro v259 w8 ho9 hb hg_ hnew_; clear hg_ hnew_; (first | rw [← Ny258.out] at ho9 | (simp only [Int.reduceToNat] at ho9; rw [← Ny258.out] at ho9)); have n0_ := Aside0.mk (Kd.R_lower ho9 (below_size (by repeat (first | (with_reducible first | exact HB.out | apply below_alloc | apply pw_below_drewN | apply below_drew1) | exact HB.out)))); have n1_ := Aside0.mk (below_step (by repeat (first | (with_reducible first | exact HB.out | apply below_alloc | apply pw_below_drewN | apply below_drew1) | exact HB.out)) hb); clear HB; have HO260 := n0_; have HB := n1_; clear n0_ n1_; clear hb ho9; have p7 : 0 ≤ (0 : Int) := (by omega); have q7 : (0 : Int) < ((y258.length : Int) : Int) := of_decide_eq_true (by first | (with_reducible assumption) | assumption); have qi7 : (0 < y258.length) = True := eq_true (by omega); obtain ⟨go7, co7, eo7, gb7, gl7, cl7, HG7⟩ := Kd.R_form HO260.out (by omega); (first | cases eo7 | (injection eo7 with ea_ en_ ec_; (first | subst ea_ | (injection ea_ with ea_; subst ea_)); subst ec_; clear en_)); have GB7 := Aside0.mk gb7; have GG7 := Aside0.mk HG7; clear gb7 gl7 HG7; obtain ⟨hx7_0, hf7_0⟩ := Kd.R_celln 0 HO260.out (0 : Int) p7 q7; (try rw [show ((0 : Int)).toNat = 0 from rfl] at hx7_0); (try simp only [Nat.reduceMul, Nat.zero_mul, Nat.zero_add, Nat.reduceAdd] at hx7_0); (try rw [show ((0 : Int)).toNat = 0 from rfl] at hf7_0); (try simp only [Nat.reduceMul, Nat.zero_mul, Nat.zero_add, Nat.reduceAdd] at hf7_0); replace p7 := eq_true p7; replace q7 := eq_true q7; obtain ⟨hy10_, hz10_⟩ := Kd.R_celln 0 HO260.out (0 : Int) (by omega) (of_decide_eq_true (by first | (with_reducible assumption) | assumption)); (try simp only [Int.reduceToNat, Int.toNat_zero, Int.toNat_ofNat, Nat.reduceMul, Nat.zero_mul, Nat.zero_add] at hy10_ hz10_); (try rw [show ((0 : Int)).toNat = 0 from rfl] at hy10_); (try rw [show ((0 : Int)).toNat = 0 from rfl] at hz10_); have HP10 := Kd.R_putg HO260.out (0 : Int) 128) | ((with_reducible refine gate_store (t := 5) (p := 18) rfl ?_); refine store_event (t := 5) (p := 18) (v := ?vo_w11) (w1 := (w8.setCell ⟨go7, (0 : Int).toNat, none⟩ (.int .u8 128))) ?hg ?ho ?hn ?hr ?_; (case ho => rfl); (case hg => rfl); (case hn => rfl); (case hr => first | (go_simp; done) | (go_simp; rfl)); intro w11 hw; have hg : w8.grownBy w11 (some go7) := (by rw [hw]; exact HP10.2); have hp_ : Kd.R (Kd.int .u8) 5 w11 w.heap.size (fun _ => True) (.slice (some ⟨go7, 0, none⟩) y258.length co7) y261 := (by rw [hw, Ny261.out]; exact HP10.1); clear HP10; have n0_ := Aside0.mk (hp_); have n1_ := Aside0.mk ((by rw [hw]; exact below_set (HB.out) GB7.out : Below w.heap.size w w11)); clear HO260; clear HB; have HO260 := n0_; have HB := n1_; clear n0_ n1_; clear hg hw hp_))
          go_loopg [22] k (fun kq v22 w' => ∃ (x4_1 : List Int) (x22_1 : Int), v22 = .int .i64 x22_1 ∧ Aside0 (sha_Pad.l0 kq x4_1 (IntKind.u64.wrap ((IntKind.u64.wrap (a0)) * 8)) x22_1 = some r) ∧ Aside0 (kq ≤ k) ∧ Aside0 (Kd.R (Kd.int .u8) 5 w' w.heap.size (fun _ => True) (.slice (some ⟨go7, 0, none⟩) y258.length co7) x4_1) ∧ Aside0 (Below w.heap.size w w'))
          case atStart => exact ⟨(y261), (0), (by first | rfl | (simp; done) | (simp [*]; done)), H', ⟨Nat.le_refl _⟩, ⟨by (with_reducible repeat (first | apply Kd.R_alloc | apply Kd.R_drewN | apply Kd.R_drew)); exact HO260.out⟩, ⟨by repeat (first | (with_reducible first | exact HB.out | apply below_alloc | apply pw_below_drewN | apply below_drew1) | exact HB.out)⟩⟩
          case round =>
            clear H'
            try clear c2
            try clear c2b0
            try clear p2
            try clear c3
            try clear c4
            try clear c4b0
            try clear c4b1
            try clear c5
            try clear c5b0
            try clear c5b1
            try clear c6
            try clear c6b0
            try clear c6b1
            try clear p6
            try clear p7
            try clear q7
            try clear hx7
            try clear qi7
            try clear hf7
            try clear hx7_0
            try clear p7
            try clear q7
            obtain ⟨x4_1, x22_1, rfl, HA, HK1, HO_4, HB⟩ := hrel
            have hl4_1 := (Kd.R_reads' HO_4.out).1
            rw [hl4_1] at HO_4
            (try simp only [hl4_1])
            cases gk with
            | zero => exact absurd HA.out (by simp [sha_Pad.l0])
            | succ k1 =>
              have H := HA.out
              clear HA
              simp only [sha_Pad.l0] at H
              by_cases c12 : x22_1 < 8
              · rw [if_pos c12] at H
                have c12b0 : decide (x22_1 < 8) = true := decide_eq_true c12
                clear c12
                obtain ⟨ji13, hji13⟩ : ∃ j_ : Int, (wrap64 (8 * x22_1)) = j_ := ⟨_, rfl⟩
                replace H : (if 0 ≤ (ji13) then (if 0 ≤ (wrap64 ((wrap64 ((x4_1.length : Int) - 1)) - x22_1)) then (if (wrap64 ((wrap64 ((x4_1.length : Int) - 1)) - x22_1)) < (x4_1.length : Int) then (sha_Pad.l0 k1 (x4_1.set ((wrap64 ((wrap64 ((x4_1.length : Int) - 1)) - x22_1)) : Int).toNat ((shr .u64 (IntKind.u64.wrap ((IntKind.u64.wrap (a0)) * 8)) (ji13)) % 256)) (IntKind.u64.wrap ((IntKind.u64.wrap (a0)) * 8)) (wrap64 (x22_1 + 1))) else (none)) else (none)) else (none)) = some r := by first | (rw [hji13] at H; exact H) | (simp only [hji13] at H ⊢; exact H)
                have hji13w : (IntKind.i64.wrap (8 * x22_1)) = ji13 := (i64_w _).trans hji13
                by_cases c14 : 0 ≤ (ji13)
                · rw [if_pos c14] at H
                  have c14b0 := eq_true c14
                  have c14b1 : decide (0 ≤ (ji13)) = true := decide_eq_true c14
                  clear c14
                  obtain ⟨ji15, hji15⟩ : ∃ j_ : Int, (shr .u64 (IntKind.u64.wrap ((IntKind.u64.wrap (a0)) * 8)) (ji13)) = j_ := ⟨_, rfl⟩
                  replace H : (if 0 ≤ (wrap64 ((wrap64 ((x4_1.length : Int) - 1)) - x22_1)) then (if (wrap64 ((wrap64 ((x4_1.length : Int) - 1)) - x22_1)) < (x4_1.length : Int) then (sha_Pad.l0 k1 (x4_1.set ((wrap64 ((wrap64 ((x4_1.length : Int) - 1)) - x22_1)) : Int).toNat ((ji15) % 256)) (IntKind.u64.wrap ((IntKind.u64.wrap (a0)) * 8)) (wrap64 (x22_1 + 1))) else (none)) else (none)) = some r := by first | (rw [hji15] at H; exact H) | (simp only [hji15] at H ⊢; exact H)
                  have hji15_ : ((IntKind.u64.wrap ((IntKind.u64.wrap (a0)) * 8)) / 2 ^ min (ji13).toNat 64) = ji15 := hji15
                  have hji15z : (ji13) ≤ 64 → ((IntKind.u64.wrap ((IntKind.u64.wrap (a0)) * 8)) / 2 ^ (ji13).toNat) = ji15 := shr_small hji15
                  obtain ⟨ji16, hji16⟩ : ∃ j_ : Int, (wrap64 ((wrap64 ((x4_1.length : Int) - 1)) - x22_1)) = j_ := ⟨_, rfl⟩
                  replace H : (if 0 ≤ (ji16) then (if (ji16) < (x4_1.length : Int) then (sha_Pad.l0 k1 (x4_1.set ((ji16) : Int).toNat ((ji15) % 256)) (IntKind.u64.wrap ((IntKind.u64.wrap (a0)) * 8)) (wrap64 (x22_1 + 1))) else (none)) else (none)) = some r := by first | (rw [hji16] at H; exact H) | (simp only [hji16] at H ⊢; exact H)
                  have hji16w : (IntKind.i64.wrap ((wrap64 ((x4_1.length : Int) - 1)) - x22_1)) = ji16 := (i64_w _).trans hji16
                  by_cases c17 : 0 ≤ (ji16)
                  · rw [if_pos c17] at H
                    have c17b0 : decide (0 ≤ (ji16)) = true := decide_eq_true c17
                    clear c17
                    by_cases c18 : (ji16) < (x4_1.length : Int)
                    · rw [if_pos c18] at H
                      have c18b0 : decide ((ji16) < (x4_1.length : Int)) = true := decide_eq_true c18
                      clear c18
                      obtain ⟨y262, hy262⟩ : ∃ y_ : List Int, y_ = (x4_1.set ((ji16) : Int).toNat ((ji15) % 256)) := ⟨_, rfl⟩
                      replace H : (sha_Pad.l0 k1 y262 (IntKind.u64.wrap ((IntKind.u64.wrap (a0)) * 8)) (wrap64 (x22_1 + 1))) = some r := by first | (rw [hy262]; with_reducible exact H) | (have H2_ := (Option.bind_some _ _).symm.trans H; rw [hy262]; with_reducible exact H2_) | (have H2_ := (Option.bind_some _ _).symm.trans H; with_reducible exact H2_) | with_reducible exact H | (rw [hy262]; exact H) | exact H
                      have Ny262 := Aside0.mk hy262
                      clear hy262
                      have H' := Aside0.mk H
                      clear H
                      have p19 : 0 ≤ ((ji16) : Int) := of_decide_eq_true (by first | (with_reducible assumption) | assumption)
                      have q19 : ((ji16) : Int) < ((x4_1.length : Int) : Int) := of_decide_eq_true (by first | (with_reducible assumption) | assumption)
                      obtain ⟨hx19_0, hf19_0⟩ := Kd.R_celln 0 HO_4.out ((ji16) : Int) p19 q19
                      replace p19 := eq_true p19
                      replace q19 := eq_true q19
                      have HP20 := Kd.R_putg HO_4.out ((ji16) : Int) ((ji15) % 256)
                      go_wp2_with (first | ((with_reducible refine gate_store (t := 5) (p := 36) rfl ?_); refine store_event (t := 5) (p := 36) (v := ?vo_w21) (w1 := (wr.setCell ⟨go7, ((ji16) : Int).toNat, none⟩ (.int .u8 ((ji15) % 256)))) ?hg ?ho ?hn ?hr ?_; (case ho => rfl); (case hg => rfl); (case hn => rfl); (case hr => first | (go_simp; done) | (go_simp; rfl)); intro w21 hw; have hg : wr.grownBy w21 (some go7) := (by rw [hw]; exact HP20.2); have hp_ : Kd.R (Kd.int .u8) 5 w21 w.heap.size (fun _ => True) (.slice (some ⟨go7, 0, none⟩) x4_1.length co7) y262 := (by rw [hw, Ny262.out]; exact HP20.1); clear HP20; have n0_ := Aside0.mk (hp_); have n1_ := Aside0.mk ((by rw [hw]; exact below_set (HB.out) GB7.out : Below w.heap.size w w21)); clear HO_4; clear HB; have HO_4 := n0_; have HB := n1_; clear n0_ n1_; clear hg hw hp_))
                      (try simp only [← hl4_1])
                      go_roundg k1
                      case measure => have := HK1.out; omega
                      case rel => exact ⟨(y262), (wrap64 (x22_1 + 1)), (by first | rfl | (simp; done) | (simp [*]; done)), H', ⟨by have := HK1.out; omega⟩, ⟨by (try simp only [hl4_1]); (with_reducible repeat (first | apply Kd.R_alloc | apply Kd.R_drewN | apply Kd.R_drew)); exact HO_4.out⟩, ⟨by repeat (first | (with_reducible first | exact HB.out | apply below_alloc | apply pw_below_drewN | apply below_drew1) | exact HB.out)⟩⟩
                    · rw [if_neg c18] at H
                      exact absurd H (by simp)
                  · rw [if_neg c17] at H
                    exact absurd H (by simp)
                · rw [if_neg c14] at H
                  exact absurd H (by simp)
              · rw [if_neg c12] at H
                have c12b0 : decide (x22_1 < 8) = false := decide_eq_false c12
                clear c12
                obtain rfl := Option.some.inj H
                have hcv22 := own_string (P := Tryd.prog) Tryd.underlying41 Tryd.underlying5 Tryd.underlying9 (Kd.own_of_R HO_4.out)
                go_wp2
                go_ret
                exact ⟨by first | rfl | (simp [errW_none, errW_some] <;> rfl) | (simp only [← hji3]; first | rfl | (simp [errW_none, errW_some] <;> rfl)) | (simp [*, errW_none, errW_some] <;> rfl), by repeat (first | (with_reducible first | exact HB.out | apply below_alloc | apply pw_below_drewN | apply below_drew1) | exact HB.out)⟩
        · rw [if_neg c6] at H
          exact absurd H (by simp)
      · rw [if_neg c5] at H
        exact absurd H (by simp)
    · rw [if_neg c4] at H
      exact absurd H (by simp)

end Go.Proofs.YtbllmpfdhcbkpaaDoor.Q
/- SHA-256: Pad, as printed, is pad. -/
namespace Go.Proofs.YtbllmpfdhcbkpaaDoor.Sha
open Go.RowKit Go.Proofs.YtbllmpfdhcbkpaaDoorW.PrintWords Go.Proofs.YtbllmpfdhcbkpaaDoorW.PrintLast Go.Proofs.YtbllmpfdhcbkpaaDoorW.PrintMore Go.Proofs.YtbllmpfdhcbkpaaDoor.Bytes Go.Proofs.YtbllmpfdhcbkpaaDoor.Q
set_option linter.unusedVariables false
set_option linter.unusedSimpArgs false
/-- A byte of a number. -/
def nib (m i : Nat) : Int := ((m / 2 ^ (8 * i) % 256 : Nat) : Int)
theorem pad_round (k m i : Nat) (x4 : List Int) (hi : i < 8) (h9 : 9 ≤ x4.length) (hb : x4.length < 1000) : sha_Pad.l0 (k + 1) x4 (m : Int) (i : Int) = sha_Pad.l0 k (x4.set (x4.length - 1 - i) (nib m i)) (m : Int) ((i + 1 : Nat) : Int) := by
  have e1 : wrap64 (8 * (i : Int)) = ((8 * i : Nat) : Int) := by rw [w64 (by omega) (by omega)]; omega
  have e2 : wrap64 ((x4.length : Int) - 1) = ((x4.length - 1 : Nat) : Int) := by rw [w64 (by omega) (by omega)]; omega
  have e3 : wrap64 (((x4.length - 1 : Nat) : Int) - (i : Int)) = ((x4.length - 1 - i : Nat) : Int) := by rw [w64 (by omega) (by omega)]; omega
  have e4 : wrap64 ((i : Int) + 1) = ((i + 1 : Nat) : Int) := by rw [w64 (by omega) (by omega)]; omega
  have e5 : shr .u64 (m : Int) ((8 * i : Nat) : Int) % 256 = nib m i := by
    unfold shr nib
    rw [Int.toNat_natCast, Nat.min_eq_left (by show 8 * i ≤ 64; omega), Int.natCast_emod, Int.natCast_ediv, Int.natCast_pow]
    rfl
  rw [sha_Pad.l0, if_pos (by omega), e1, e2, e3, e4, e5, if_pos (Int.natCast_nonneg _), if_pos (Int.natCast_nonneg _), if_pos (by omega), Int.toNat_natCast]
theorem pad_last (k m : Nat) (x4 : List Int) : sha_Pad.l0 (k + 1) x4 (m : Int) ((8 : Nat) : Int) = some (strOfNums x4) := by
  rw [sha_Pad.l0, if_neg (by decide)]
theorem nib_byte (m i c : Nat) (h : 2 ^ (8 * i) = c) : UInt8.ofNat (nib m i).toNat = (m / c).toUInt8 := by
  unfold nib
  rw [Int.toNat_natCast, h]
  apply UInt8.toNat_inj.1
  show (UInt8.ofNat _).toNat = (UInt8.ofNat _).toNat
  rw [UInt8.toNat_ofNat', UInt8.toNat_ofNat']
  omega
theorem pad_f (n : Nat) (hn : n < 1152921504606846976) : sha_Pad.f 9 (n : Int) = some ⟨(pad n).toArray⟩ := by
  obtain ⟨z, hz⟩ : ∃ z, (119 - n % 64) % 64 = z := ⟨_, rfl⟩
  have hzl : z < 64 := by omega
  have t1 : Int.tmod (n : Int) 64 = ((n % 64 : Nat) : Int) := rfl
  have t2 : wrap64 (119 - ((n % 64 : Nat) : Int)) = ((119 - n % 64 : Nat) : Int) := by rw [w64 (by omega) (by omega)]; omega
  have t3 : Int.tmod ((119 - n % 64 : Nat) : Int) 64 = (z : Int) := by rw [← hz]; rfl
  have t4 : wrap64 (1 + (z : Int)) = ((z + 1 : Nat) : Int) := by rw [w64 (by omega) (by omega)]; omega
  have t5 : wrap64 (((z + 1 : Nat) : Int) + 8) = ((z + 9 : Nat) : Int) := by rw [w64 (by omega) (by omega)]; omega
  have t6 : IntKind.u64.wrap (n : Int) = (n : Int) := by rw [IntKind.wrap_u64]; omega
  have t7 : IntKind.u64.wrap ((n : Int) * 8) = ((n * 8 : Nat) : Int) := by rw [IntKind.wrap_u64]; omega
  have hrep : (List.replicate (z + 9) (0 : Int)).set 0 128 = 128 :: (List.replicate z 0 ++ [0, 0, 0, 0, 0, 0, 0, 0]) := by
    rw [show z + 9 = (z + 8) + 1 from rfl, List.replicate_succ, List.set_cons_zero, ← List.replicate_append_replicate]
    rfl
  have hset : ∀ (a0 a1 a2 a3 a4 a5 a6 a7 v : Int) (j : Nat), j < 8 → ((128 : Int) :: (List.replicate z 0 ++ [a0, a1, a2, a3, a4, a5, a6, a7])).set ((z + 9) - 1 - j) v = 128 :: (List.replicate z 0 ++ [a0, a1, a2, a3, a4, a5, a6, a7].set (7 - j) v) := fun a0 a1 a2 a3 a4 a5 a6 a7 v j hj => by
    rw [show z + 9 - 1 - j = (z + 7 - j) + 1 from by omega, List.set_cons_succ, List.set_append_right _ _ (by rw [List.length_replicate]; omega), List.length_replicate, show z + 7 - j - z = 7 - j from by omega]
  have hlen : ∀ (a0 a1 a2 a3 a4 a5 a6 a7 : Int), ((128 : Int) :: (List.replicate z 0 ++ [a0, a1, a2, a3, a4, a5, a6, a7])).length = z + 9 := fun a0 a1 a2 a3 a4 a5 a6 a7 => by
    rw [List.length_cons, List.length_append, List.length_replicate]
    rfl
  have hstep : ∀ (k i : Nat) (a0 a1 a2 a3 a4 a5 a6 a7 : Int), i < 8 → sha_Pad.l0 (k + 1) (128 :: (List.replicate z 0 ++ [a0, a1, a2, a3, a4, a5, a6, a7])) ((n * 8 : Nat) : Int) (i : Int) = sha_Pad.l0 k (128 :: (List.replicate z 0 ++ [a0, a1, a2, a3, a4, a5, a6, a7].set (7 - i) (nib (n * 8) i))) ((n * 8 : Nat) : Int) ((i + 1 : Nat) : Int) := fun k i a0 a1 a2 a3 a4 a5 a6 a7 hi => by
    rw [pad_round k (n * 8) i _ hi (by rw [hlen]; omega) (by rw [hlen]; omega), hlen, hset _ _ _ _ _ _ _ _ _ i hi]
  unfold sha_Pad.f
  rw [if_neg (by omega), t1, t2, t3, t4, t5, if_pos (Int.natCast_nonneg _), if_pos (by rw [Int.toNat_natCast]; omega), Int.toNat_natCast, Option.bind_some, if_pos (by rw [List.length_replicate]; omega), t6, t7, Int.toNat_zero, hrep]
  refine (hstep 8 0 _ _ _ _ _ _ _ _ (by decide)).trans ?_
  refine (hstep 7 1 _ _ _ _ _ _ _ _ (by decide)).trans ?_
  refine (hstep 6 2 _ _ _ _ _ _ _ _ (by decide)).trans ?_
  refine (hstep 5 3 _ _ _ _ _ _ _ _ (by decide)).trans ?_
  refine (hstep 4 4 _ _ _ _ _ _ _ _ (by decide)).trans ?_
  refine (hstep 3 5 _ _ _ _ _ _ _ _ (by decide)).trans ?_
  refine (hstep 2 6 _ _ _ _ _ _ _ _ (by decide)).trans ?_
  refine (hstep 1 7 _ _ _ _ _ _ _ _ (by decide)).trans ?_
  refine (pad_last 0 (n * 8) _).trans ?_
  unfold strOfNums pad
  rw [hz]
  congr 3
  simp only [List.map_cons, List.map_append, List.map_replicate, List.map_nil, List.set_cons_succ, List.set_cons_zero, Nat.sub_self, Nat.reduceSub]
  rw [nib_byte _ 7 72057594037927936 rfl, nib_byte _ 6 281474976710656 rfl, nib_byte _ 5 1099511627776 rfl, nib_byte _ 4 4294967296 rfl, nib_byte _ 3 16777216 rfl, nib_byte _ 2 65536 rfl, nib_byte _ 1 256 rfl, nib_byte _ 0 1 rfl, Nat.div_one]
  rfl
theorem pad_calls : PadCalls := fun n w hn => sha_Pad.calls 9 (n : Int) _ w (pad_f n hn)
end Go.Proofs.YtbllmpfdhcbkpaaDoor.Sha
/- The document's SHA-256: turn, step. -/
namespace Go.Proofs.YtbllmpfdhcbkpaaDoor.Sha
open Go.RowKit Go.Proofs.YtbllmpfdhcbkpaaDoorW.PrintWords Go.Proofs.YtbllmpfdhcbkpaaDoorW.PrintLast Go.Proofs.YtbllmpfdhcbkpaaDoorW.PrintMore Go.Proofs.YtbllmpfdhcbkpaaDoor.Bytes
set_option linter.unusedVariables false
set_option linter.unusedSimpArgs false
/-- A word twice, turned: its low half. -/
theorem twice_turn (x : B32) (n : Nat) (h0 : 0 < n) (hn : n < 32) : (((x.setWidth 64 <<< 32 ||| x.setWidth 64) >>> n).setWidth 32 : B32) = rotr x n := by
  unfold rotr
  apply BitVec.eq_of_getLsbD_eq
  intro i hi
  simp only [BitVec.getLsbD_setWidth, BitVec.getLsbD_ushiftRight, BitVec.getLsbD_or, BitVec.getLsbD_shiftLeft]
  have e1 : decide (i < 32) = true := decide_eq_true hi
  have e2 : decide (n + i < 64) = true := decide_eq_true (by omega)
  have e3 : decide (n + i - 32 < 64) = true := decide_eq_true (by omega)
  rw [e1, e2, e3]
  by_cases h : n + i < 32
  · have e4 : decide (n + i < 32) = true := decide_eq_true h
    have e5 : decide (i < 32 - n) = true := decide_eq_true (by omega)
    rw [e4, e5]
    simp
  · have e4 : decide (n + i < 32) = false := decide_eq_false h
    have e5 : decide (i < 32 - n) = false := decide_eq_false (by omega)
    have e6 : x.getLsbD (n + i) = false := BitVec.getLsbD_of_ge _ _ (by omega)
    rw [e4, e5, e6, show i - (32 - n) = n + i - 32 from by omega]
    simp
theorem twice_nat (X : Nat) (hX : X < 4294967296) : (X * 4294967296 % 18446744073709551616) ||| X = X * 4294967296 + X := by
  rw [Nat.mod_eq_of_lt (by omega)]
  have := Nat.two_pow_add_eq_or_of_lt (i := 32) (b := X) (by omega) X
  rw [Nat.mul_comm X 4294967296, show (4294967296 : Nat) = 2 ^ 32 from rfl, this]
/-- turn, in numbers. -/
theorem turn_nat (x : B32) (n : Nat) (h0 : 0 < n) (hn : n < 32) : (U x * 4294967296 + U x) / 2 ^ n % 4294967296 = U (rotr x n) := by
  rw [← twice_turn x n h0 hn]
  unfold U
  rw [BitVec.toNat_setWidth, BitVec.toNat_ushiftRight, BitVec.toNat_or, BitVec.toNat_shiftLeft, BitVec.toNat_setWidth, Nat.shiftLeft_eq, Nat.shiftRight_eq_div_pow]
  have hx := x.isLt
  rw [Nat.mod_eq_of_lt (show x.toNat < 2 ^ 64 by omega)]
  have := twice_nat x.toNat hx
  rw [show (2 : Nat) ^ 32 = 4294967296 from rfl, show (2 : Nat) ^ 64 = 18446744073709551616 from rfl, this]
  rw [Int.natCast_emod, Int.natCast_ediv, Int.natCast_add, Int.natCast_mul, Int.natCast_pow]
  rfl
theorem or_twice (x : B32) : bits .or .u64 (U x * 4294967296) (U x) = U x * 4294967296 + U x := by
  unfold U
  have hx := x.isLt
  have e : ((x.toNat : Int) * 4294967296) = ((x.toNat * 4294967296 : Nat) : Int) := by rw [Int.natCast_mul]; rfl
  rw [e, u64_or_nat _ _ (by omega) (by omega)]
  have := twice_nat x.toNat hx
  rw [Nat.mod_eq_of_lt (by omega)] at this
  rw [this, Int.natCast_add]
attribute [local go_sem] U_xor U_and U_or U_add U_add' U_not u32_signed u32_max or_twice
set_option maxRecDepth 100000 in
set_option maxHeartbeats 2000000 in
theorem turn_calls (x : B32) (n : Nat) (h0 : 0 < n) (hn : n < 32) (w : World) : Calls Tryd.prog 81 #[.int .u32 (U x), .int .u64 (n : Int)] w fun e w' => e = .returned (.int .u32 (U (rotr x n))) ∧ w' = w := by
  have p1 : 0 ≤ (n : Int) := by omega
  have p2 : (n : Int) ≤ 64 := by omega
  have hU := U_lt x
  have hw : IntKind.u64.wrap (U x) = U x := by rw [IntKind.wrap_u64]; omega
  have hw2 : IntKind.u64.wrap (U x * 4294967296) = U x * 4294967296 := by rw [IntKind.wrap_u64]; omega
  have hm : U x * 4294967296 % 18446744073709551616 = U x * 4294967296 := by omega
  have hm2 : U x % 18446744073709551616 = U x := by omega
  go_enter Tryd.func81, Tryd.ntmps81
  go_wp2
  go_ret
  exact ⟨by rw [turn_nat x n h0 hn]; rfl, rfl⟩
/-- A round, the constant and the word together. -/
def stepV (v : V8) (x : B32) : V8 :=
  let choose := (v.e &&& v.f) ||| (~~~v.e &&& v.g)
  let most := (v.a &&& v.b) ||| (v.a &&& v.c) ||| (v.b &&& v.c)
  let one := v.k + (rotr v.e 6 ^^^ rotr v.e 11 ^^^ rotr v.e 25) + choose + x
  let two := (rotr v.a 2 ^^^ rotr v.a 13 ^^^ rotr v.a 22) + most
  ⟨one + two, v.a, v.b, v.c, v.d + one, v.e, v.f, v.g⟩
theorem choose_eq (e f g : B32) : (e &&& f) ||| (~~~e &&& g) = e &&& f ^^^ (~~~e &&& g) := by
  apply BitVec.eq_of_getLsbD_eq
  intro i hi
  simp only [BitVec.getLsbD_or, BitVec.getLsbD_and, BitVec.getLsbD_xor, BitVec.getLsbD_not, decide_eq_true hi]
  cases e.getLsbD i <;> cases f.getLsbD i <;> cases g.getLsbD i <;> rfl
theorem most_eq (a b c : B32) : (a &&& b) ||| (a &&& c) ||| (b &&& c) = a &&& b ^^^ a &&& c ^^^ b &&& c := by
  apply BitVec.eq_of_getLsbD_eq
  intro i hi
  simp only [BitVec.getLsbD_or, BitVec.getLsbD_and, BitVec.getLsbD_xor]
  cases a.getLsbD i <;> cases b.getLsbD i <;> cases c.getLsbD i <;> rfl
theorem step_round (v : V8) (c w : B32) : stepV v (c + w) = round v c w := by
  unfold stepV round
  simp only [choose_eq, most_eq, BitVec.add_assoc]
theorem size_alloc (w : World) (o : Obj) : (w.alloc o).heap.size = w.heap.size + 1 := by simp [World.alloc, -World.alloc_eq]
/-- A row of 8 words in a block of its own. -/
theorem cells8 {W : World} {h : Nat} {v : V8} {t : TypeId} (hb : W.heap[h]? = some (.cells v.cells t (0, 0))) : (W.cell? ⟨h, 0, none⟩ = some (.int .u32 (U v.a)) ∧ W.cell? ⟨h, 1, none⟩ = some (.int .u32 (U v.b)) ∧ W.cell? ⟨h, 2, none⟩ = some (.int .u32 (U v.c)) ∧ W.cell? ⟨h, 3, none⟩ = some (.int .u32 (U v.d))) ∧ (W.cell? ⟨h, 4, none⟩ = some (.int .u32 (U v.e)) ∧ W.cell? ⟨h, 5, none⟩ = some (.int .u32 (U v.f)) ∧ W.cell? ⟨h, 6, none⟩ = some (.int .u32 (U v.g)) ∧ W.cell? ⟨h, 7, none⟩ = some (.int .u32 (U v.k))) := by
  refine ⟨⟨?_, ?_, ?_, ?_⟩, ?_, ?_, ?_, ?_⟩ <;> simp [World.cell?, hb, V8.cells, wcell]
theorem fro_of {W : World} {h : Nat} {cs : Array Value} {t : TypeId} (hb : W.heap[h]? = some (.cells cs t (0, 0))) (i : Nat) : W.frozen? ⟨h, i, none⟩ = false := by simp [World.frozen?, hb]
set_option maxRecDepth 100000 in
set_option maxHeartbeats 4000000 in
theorem step_calls (v : V8) (x : B32) (w : World) : Calls Tryd.prog 59 #[.agg v.cells, .int .u32 (U x)] w fun e w' => e = .returned (.agg (stepV v x).cells) ∧ Below w.heap.size w w' := by
  have RT := Aside0.mk (fun (n : Nat) (h0 : 0 < n) (h1 : n < 32) (x : B32) (W : World) => turn_calls x n h0 h1 W)
  have R6 : Aside0 (∀ x W, Calls Tryd.prog 81 #[.int .u32 (U x), .int .u64 6] W fun e w' => e = .returned (.int .u32 (U (rotr x 6))) ∧ w' = W) := ⟨RT.out 6 (by decide) (by decide)⟩
  have R11 : Aside0 (∀ x W, Calls Tryd.prog 81 #[.int .u32 (U x), .int .u64 11] W fun e w' => e = .returned (.int .u32 (U (rotr x 11))) ∧ w' = W) := ⟨RT.out 11 (by decide) (by decide)⟩
  have R25 : Aside0 (∀ x W, Calls Tryd.prog 81 #[.int .u32 (U x), .int .u64 25] W fun e w' => e = .returned (.int .u32 (U (rotr x 25))) ∧ w' = W) := ⟨RT.out 25 (by decide) (by decide)⟩
  have R2 : Aside0 (∀ x W, Calls Tryd.prog 81 #[.int .u32 (U x), .int .u64 2] W fun e w' => e = .returned (.int .u32 (U (rotr x 2))) ∧ w' = W) := ⟨RT.out 2 (by decide) (by decide)⟩
  have R13 : Aside0 (∀ x W, Calls Tryd.prog 81 #[.int .u32 (U x), .int .u64 13] W fun e w' => e = .returned (.int .u32 (U (rotr x 13))) ∧ w' = W) := ⟨RT.out 13 (by decide) (by decide)⟩
  have R22 : Aside0 (∀ x W, Calls Tryd.prog 81 #[.int .u32 (U x), .int .u64 22] W fun e w' => e = .returned (.int .u32 (U (rotr x 22))) ∧ w' = W) := ⟨RT.out 22 (by decide) (by decide)⟩
  clear RT
  obtain ⟨W2, hW2⟩ : ∃ W2, (w.alloc (.cells v.cells 84)).alloc (.cells (V8.cells ⟨0, 0, 0, 0, 0, 0, 0, 0⟩) 84) = W2 := ⟨_, rfl⟩
  have HB2 : Aside0 (Below w.heap.size w W2) := ⟨by rw [← hW2]; exact ((Below.refl _ w).alloc (Nat.le_refl _) _).alloc (by rw [size_alloc]; omega) _⟩
  have HX0 : Aside0 (W2.heap[w.heap.size]? = some (.cells v.cells 84 (0, 0))) := ⟨by
    rw [← hW2, ((Below.refl (w.alloc (.cells v.cells 84)).heap.size _).alloc (Nat.le_refl _) _).block _ (by rw [size_alloc]; omega)]
    exact World.alloc_heap_new w _⟩
  have HX1 : Aside0 (W2.heap[w.heap.size + 1]? = some (.cells (V8.cells ⟨0, 0, 0, 0, 0, 0, 0, 0⟩) 84 (0, 0))) := ⟨by
    rw [← hW2]
    have := World.alloc_heap_new (w.alloc (.cells v.cells 84)) (.cells (V8.cells ⟨0, 0, 0, 0, 0, 0, 0, 0⟩) 84)
    rw [size_alloc] at this
    exact this⟩
  go_enter Tryd.func59, Tryd.ntmps59
  go_upto_region 1 with fail
  change Code.wp _ _ _ _ ((w.alloc (.cells v.cells 84)).alloc (.cells (V8.cells ⟨0, 0, 0, 0, 0, 0, 0, 0⟩) 84))
  rw [hW2]
  clear hW2
  obtain ⟨⟨k0, k1, k2, k3⟩, k4, k5, k6, k7⟩ := cells8 HX0.out
  obtain ⟨⟨q0, q1, q2, q3⟩, q4, q5, q6, q7⟩ := cells8 HX1.out
  have rf := fro_of HX1.out
  have hu70 := Tryd.underlying84
  go_wp2
  go_quiet (first | (go_at_call 81; ((with_reducible refine (R6.out _ _).mono ?_)); rintro e w2 ⟨rfl, hw⟩; exact ⟨rfl, _, hw⟩) | (go_at_call 81; ((with_reducible refine (R11.out _ _).mono ?_)); rintro e w2 ⟨rfl, hw⟩; exact ⟨rfl, _, hw⟩) | (go_at_call 81; ((with_reducible refine (R25.out _ _).mono ?_)); rintro e w2 ⟨rfl, hw⟩; exact ⟨rfl, _, hw⟩))
  go_wp2
  go_quiet (first | (go_at_call 81; ((with_reducible refine (R2.out _ _).mono ?_)); rintro e w2 ⟨rfl, hw⟩; exact ⟨rfl, _, hw⟩) | (go_at_call 81; ((with_reducible refine (R13.out _ _).mono ?_)); rintro e w2 ⟨rfl, hw⟩; exact ⟨rfl, _, hw⟩) | (go_at_call 81; ((with_reducible refine (R22.out _ _).mono ?_)); rintro e w2 ⟨rfl, hw⟩; exact ⟨rfl, _, hw⟩))
  go_wp2
  refine bodyPost_ret (v := .agg (stepV v x).cells) (results_cell_row rfl _ _ (w.heap.size + 1) 84 (stepV v x).cells (0, 0) _ rfl ?_ Tryd.underlying84 rfl (by kernel_rfl)) rfl ⟨rfl, ?_⟩
  · simp [World.setCell, Array.getElem?_modify, HX1.out, V8.cells, wcell, stepV]
  · exact below_set (below_set (below_set (below_set (below_set (below_set (below_set (below_set (pw_below_drewN HB2.out _) _ _ (by simp)) _ _ (by simp)) _ _ (by simp)) _ _ (by simp)) _ _ (by simp)) _ _ (by simp)) _ _ (by simp)) _ _ (by simp)
set_option maxRecDepth 100000 in
set_option maxHeartbeats 4000000 in
theorem start_calls (w : World) : Calls Tryd.prog 41 #[] w fun e w' => e = .returned (.agg H0.cells) ∧ Below w.heap.size w w' := by
  have hu70 := Tryd.underlying84
  obtain ⟨W1, hW1⟩ : ∃ W1, w.alloc (.cells (V8.cells ⟨0, 0, 0, 0, 0, 0, 0, 0⟩) 84) = W1 := ⟨_, rfl⟩
  have HB1 : Aside0 (Below w.heap.size w W1) := ⟨by rw [← hW1]; exact (Below.refl _ w).alloc (Nat.le_refl _) _⟩
  have HX1 : Aside0 (W1.heap[w.heap.size]? = some (.cells (V8.cells ⟨0, 0, 0, 0, 0, 0, 0, 0⟩) 84 (0, 0))) := ⟨by rw [← hW1]; exact World.alloc_heap_new w _⟩
  go_enter Tryd.func41, Tryd.ntmps41
  go_upto_region 1 with fail
  change Code.wp _ _ _ _ (w.alloc (.cells (V8.cells ⟨0, 0, 0, 0, 0, 0, 0, 0⟩) 84))
  rw [hW1]
  clear hW1
  obtain ⟨⟨q0, q1, q2, q3⟩, q4, q5, q6, q7⟩ := cells8 HX1.out
  have rf := fro_of HX1.out
  go_wp2
  refine bodyPost_ret (v := .agg H0.cells) (results_cell_row rfl _ _ w.heap.size 84 H0.cells (0, 0) _ rfl ?_ Tryd.underlying84 rfl (by kernel_rfl)) rfl ⟨rfl, ?_⟩
  · simp [World.setCell, Array.getElem?_modify, HX1.out, V8.cells, wcell, H0, U]
  · exact below_set (below_set (below_set (below_set (below_set (below_set (below_set (below_set HB1.out _ _ (by simp)) _ _ (by simp)) _ _ (by simp)) _ _ (by simp)) _ _ (by simp)) _ _ (by simp)) _ _ (by simp)) _ _ (by simp)
set_option maxRecDepth 100000 in
set_option maxHeartbeats 4000000 in
theorem constants_calls (w : World) : Calls Tryd.prog 58 #[] w fun e w' => e = .returned (.agg (warr K)) ∧ Below w.heap.size w w' := by
  have hu85 := Tryd.underlying110
  obtain ⟨W1, hW1⟩ : ∃ W1, w.alloc (.cells (warr (List.replicate 64 0)) 110) = W1 := ⟨_, rfl⟩
  have HB1 : Aside0 (Below w.heap.size w W1) := ⟨by rw [← hW1]; exact (Below.refl _ w).alloc (Nat.le_refl _) _⟩
  have HX1 : Aside0 (W1.heap[w.heap.size]? = some (.cells (warr (List.replicate 64 0)) 110 (0, 0))) := ⟨by rw [← hW1]; exact World.alloc_heap_new w _⟩
  go_enter Tryd.func58, Tryd.ntmps58
  go_upto_region 1 with fail
  change Code.wp _ _ _ _ (w.alloc (.cells (warr (List.replicate 64 0)) 110))
  rw [hW1]
  clear hW1
  go_wp2_with (first
    | ((with_reducible refine gate_store (t := 110) (p := 0) rfl ?_); refine wpList_store_row' rfl 110 (.tmp 0) (.tmp 1) rfl w.heap.size 110 (warr (List.replicate 64 0)) (warr K) rfl (by kernel_rfl) HX1.out (by kernel_rfl) (by kernel_rfl) (by kernel_rfl) ?_; intro w9 hw9; have HX9 : Aside0 (w9.heap[w.heap.size]? = some (.cells (warr K) 110 (0, 0))) := ⟨by rw [hw9]; exact setRow_heap _ _ _ _ _ _ HX1.out⟩; have HB9 : Aside0 (Below w.heap.size w w9) := ⟨by rw [hw9]; exact below_setRow HB1.out (Nat.le_refl _) _⟩; clear hw9))
  exact bodyPost_ret (v := .agg (warr K)) (results_cell_row rfl _ _ w.heap.size 110 (warr K) (0, 0) _ rfl HX9.out Tryd.underlying110 rfl (by kernel_rfl)) rfl ⟨rfl, HB9.out⟩
end Go.Proofs.YtbllmpfdhcbkpaaDoor.Sha
/- The document's SHA-256: a block's schedule. -/
namespace Go.Proofs.YtbllmpfdhcbkpaaDoor.Sha
open Go.RowKit Go.Proofs.YtbllmpfdhcbkpaaDoorW.PrintWords Go.Proofs.YtbllmpfdhcbkpaaDoorW.PrintLast Go.Proofs.YtbllmpfdhcbkpaaDoorW.PrintMore Go.Proofs.YtbllmpfdhcbkpaaDoor.Bytes
set_option linter.unusedVariables false
set_option linter.unusedSimpArgs false
/-- A word, byte by byte. -/
def pv (b : List UInt8) (i : Nat) : Nat → B32
  | 0 => 0
  | j + 1 => pv b i j <<< (8 : Nat) + BitVec.ofNat 32 (b.getD (4 * i + j) 0).toNat
theorem shl_add (x : B32) (c : UInt8) (n : Nat) (h : x.toNat < n) (hn : n * 256 ≤ 4294967296) : (x <<< (8 : Nat) + BitVec.ofNat 32 c.toNat).toNat = x.toNat * 256 + c.toNat := by
  have hc := c.toNat_lt
  rw [BitVec.toNat_add, BitVec.toNat_shiftLeft, Nat.shiftLeft_eq, BitVec.toNat_ofNat]
  have : x.toNat * 2 ^ 8 = x.toNat * 256 := rfl
  rw [this, Nat.mod_eq_of_lt (a := x.toNat * 256) (by omega), Nat.mod_eq_of_lt (a := c.toNat) (by omega), Nat.mod_eq_of_lt (by omega)]
theorem be_nat (a b c d : UInt8) : (be a b c d).toNat = ((a.toNat * 256 + b.toNat) * 256 + c.toNat) * 256 + d.toNat := by
  have ha := a.toNat_lt
  have hb := b.toNat_lt
  have hc := c.toNat_lt
  have hd := d.toNat_lt
  unfold be
  simp only [BitVec.toNat_or, BitVec.toNat_shiftLeft, BitVec.toNat_ofNat, Nat.shiftLeft_eq]
  rw [Nat.mod_eq_of_lt (a := a.toNat) (by omega), Nat.mod_eq_of_lt (a := b.toNat) (by omega), Nat.mod_eq_of_lt (a := c.toNat) (by omega), Nat.mod_eq_of_lt (a := d.toNat) (by omega), Nat.mod_eq_of_lt (a := a.toNat * 2 ^ 24) (by omega), Nat.mod_eq_of_lt (a := b.toNat * 2 ^ 16) (by omega), Nat.mod_eq_of_lt (a := c.toNat * 2 ^ 8) (by omega)]
  have e1 := Nat.two_pow_add_eq_or_of_lt (i := 24) (b := b.toNat * 2 ^ 16) (by omega) a.toNat
  have e2 := Nat.two_pow_add_eq_or_of_lt (i := 16) (b := c.toNat * 2 ^ 8) (by omega) (a.toNat * 2 ^ 8 + b.toNat)
  have e3 := Nat.two_pow_add_eq_or_of_lt (i := 8) (b := d.toNat) (by omega) ((a.toNat * 2 ^ 8 + b.toNat) * 2 ^ 8 + c.toNat)
  rw [Nat.mul_comm a.toNat (2 ^ 24), ← e1, show 2 ^ 24 * a.toNat + b.toNat * 2 ^ 16 = 2 ^ 16 * (a.toNat * 2 ^ 8 + b.toNat) from by omega, ← e2, show 2 ^ 16 * (a.toNat * 2 ^ 8 + b.toNat) + c.toNat * 2 ^ 8 = 2 ^ 8 * ((a.toNat * 2 ^ 8 + b.toNat) * 2 ^ 8 + c.toNat) from by omega, ← e3]
  omega
theorem pv4 (b : List UInt8) (i : Nat) : pv b i 4 = wordAt b i := by
  apply BitVec.eq_of_toNat_eq
  unfold wordAt
  rw [be_nat]
  have h0 := (b.getD (4 * i) 0).toNat_lt
  have h1 := (b.getD (4 * i + 1) 0).toNat_lt
  have h2 := (b.getD (4 * i + 2) 0).toNat_lt
  have h3 := (b.getD (4 * i + 3) 0).toNat_lt
  have s0 : (pv b i 0).toNat = 0 := rfl
  have s1 : (pv b i 1).toNat = (b.getD (4 * i) 0).toNat := by
    have := shl_add (pv b i 0) (b.getD (4 * i + 0) 0) 1 (by rw [s0]; omega) (by omega)
    rw [s0] at this
    rw [pv, this]
    simp
  have s2 : (pv b i 2).toNat = (b.getD (4 * i) 0).toNat * 256 + (b.getD (4 * i + 1) 0).toNat := by
    have := shl_add (pv b i 1) (b.getD (4 * i + 1) 0) 256 (by rw [s1]; omega) (by omega)
    rw [s1] at this
    rw [pv, this]
  have s3 : (pv b i 3).toNat = ((b.getD (4 * i) 0).toNat * 256 + (b.getD (4 * i + 1) 0).toNat) * 256 + (b.getD (4 * i + 2) 0).toNat := by
    have := shl_add (pv b i 2) (b.getD (4 * i + 2) 0) 65536 (by rw [s2]; omega) (by omega)
    rw [s2] at this
    rw [pv, this]
  have := shl_add (pv b i 3) (b.getD (4 * i + 3) 0) 16777216 (by rw [s3]; omega) (by omega)
  rw [s3] at this
  rw [pv, this]
/-- words' boxes: the bytes, the answer, the schedule. -/
structure Wk (h : Nat) (w W : World) (b : List UInt8) (ws : List B32) : Prop where
  bb : W.heap[h]? = some (.cells (barr b) 85 (0, 0))
  rb : W.heap[h + 1]? = some (.cells (warr (List.replicate 64 0)) 110 (0, 0))
  wb : W.heap[h + 1 + 1]? = some (.cells (warr ws) 110 (0, 0))
  below : Below h w W
section
variable {h : Nat} {w W W2 : World} {b : List UInt8} {ws : List B32}
theorem Wk.start (w : World) (b : List UInt8) : Wk w.heap.size w (((w.alloc (.cells (barr b) 85)).alloc (.cells (warr (List.replicate 64 0)) 110)).alloc (.cells (warr (List.replicate 64 0)) 110)) b (List.replicate 64 0) := by
  have a1 : ∀ (W : World) (o : Obj), (W.alloc o).heap.size = W.heap.size + 1 := fun W o => Array.size_push _
  have a2 : ∀ (W : World) (o : Obj) (k : Nat), k < W.heap.size → (W.alloc o).heap[k]? = W.heap[k]? := fun W o k hk => ((Below.refl W.heap.size W).alloc (Nat.le_refl _) o).block k hk
  have a3 : ∀ (W : World) (o : Obj) (k : Nat), k = W.heap.size → (W.alloc o).heap[k]? = some o := fun W o k hk => by rw [hk]; exact World.alloc_heap_new W o
  refine ⟨?_, ?_, ?_, ?_⟩
  · rw [a2 _ _ _ (by simp only [a1]; omega), a2 _ _ _ (by simp only [a1]; omega), a3 _ _ _ rfl]
  · rw [a2 _ _ _ (by simp only [a1]; omega), a3 _ _ _ (by simp only [a1])]
  · rw [a3 _ _ _ (by simp only [a1])]
  · exact (((Below.refl _ w).alloc (Nat.le_refl _) _).alloc (by simp only [a1]; omega) _).alloc (by simp only [a1]; omega) _
theorem Wk.lt (k : Wk h w W b ws) : h + 1 + 1 < W.heap.size := (Array.getElem?_eq_some_iff.1 k.wb).1
theorem Wk.keep (k : Wk h w W b ws) (hb : Below W.heap.size W W2) : Wk h w W2 b ws := by
  have z := k.lt
  exact ⟨(hb.block _ (by omega)).trans k.bb, (hb.block _ (by omega)).trans k.rb, (hb.block _ (by omega)).trans k.wb, k.below.trans (hb.mono (by omega))⟩
theorem Wk.byte (k : Wk h w W b ws) (i : Nat) (hi : i < b.length) : W.cell? ⟨h, i, none⟩ = some (.int .u8 (B (b.getD i 0))) := by
  simp [World.cell?, k.bb, barr, List.getElem?_map, List.getElem?_eq_getElem hi, List.getD_eq_getElem?_getD, bcell]
theorem Wk.word (k : Wk h w W b ws) (i : Nat) (hi : i < ws.length) : W.cell? ⟨h + 1 + 1, i, none⟩ = some (.int .u32 (U (ws.getD i 0))) := by
  simp [World.cell?, k.wb, warr, List.getElem?_map, List.getElem?_eq_getElem hi, List.getD_eq_getElem?_getD, wcell]
theorem Wk.fro (k : Wk h w W b ws) (i : Nat) : W.frozen? ⟨h + 1 + 1, i, none⟩ = false := by simp [World.frozen?, k.wb]
theorem Wk.set (k : Wk h w W b ws) (i : Nat) (x : B32) : Wk h w (W.setCell ⟨h + 1 + 1, i, none⟩ (.int .u32 (U x))) b (ws.set i x) := by
  refine ⟨(Below.heap_setCell _ _ _ _ (by show h ≠ h + 1 + 1; omega)).trans k.bb, (Below.heap_setCell _ _ _ _ (by show h + 1 ≠ h + 1 + 1; omega)).trans k.rb, ?_, ?_⟩
  · have := k.wb
    simp [World.setCell, Array.getElem?_modify, this, warr, List.map_set, wcell]
  · exact k.below.trans ⟨rfl, rfl, rfl, (KeepsWalks.setCell W _ _).size, fun i hi => Below.heap_setCell _ _ _ i (by show i ≠ h + 1 + 1; omega)⟩
end
theorem filled_nil : filled [] = List.replicate 64 0 := rfl
/-- The schedule, the word at work put in. -/
def inWork (b : List UInt8) (i j : Nat) : List B32 := (filled (first b i)).set i (pv b i j)
theorem inWork_len (b : List UInt8) (i j : Nat) (hi : i ≤ 64) : (inWork b i j).length = 64 := by
  rw [inWork, List.length_set, filled_len _ (by rw [first_len]; exact hi)]
theorem inWork_zero (b : List UInt8) (i : Nat) (hi : i < 64) : inWork b i 0 = filled (first b i) := by
  unfold inWork pv
  have hl := first_len b i
  apply List.ext_getElem?
  intro k
  rw [List.getElem?_set]
  split
  · rename_i h
    subst h
    rw [if_pos (by rw [filled_len _ (by omega)]; exact hi)]
    unfold filled
    rw [List.getElem?_append_right (by omega), List.getElem?_replicate, if_pos (by omega)]
  · rfl
theorem inWork_get (b : List UInt8) (i j : Nat) (hi : i < 64) : (inWork b i j).getD i 0 = pv b i j := by
  unfold inWork
  rw [List.getD_eq_getElem?_getD, List.getElem?_set, if_pos rfl, if_pos (by rw [filled_len _ (by rw [first_len]; omega)]; exact hi)]
  rfl
theorem inWork_set (b : List UInt8) (i j : Nat) : (inWork b i j).set i (pv b i (j + 1)) = inWork b i (j + 1) := by
  unfold inWork
  rw [List.set_set]
theorem inWork_four (b : List UInt8) (i : Nat) (hi : i < 64) : inWork b i 4 = filled (first b (i + 1)) := by
  unfold inWork
  have := filled_set (first b i) (wordAt b i) (by rw [first_len]; omega)
  rw [first_len] at this
  rw [pv4, this, first]
attribute [local go_sem] U_xor U_and U_or U_add U_add' U_shr3 U_shr8 U_shr10 U_shr16 U_shr24 U_shl8 U_shl16 U_shl24 U_shl8w U_shl16w U_shl24w B_wide B_wide' U_byte U_byte' U_not u32_signed u32_max
set_option maxRecDepth 100000 in
set_option maxHeartbeats 4000000 in
theorem words_calls (b : List UInt8) (hb : b.length = 64) (w : World) : Calls Tryd.prog 57 #[.agg (b.map bcell).toArray] w fun e w' => e = .returned (.agg (warr (sched b))) ∧ Below w.heap.size w w' := by
  have RT := Aside0.mk (fun (n : Nat) (h0 : 0 < n) (h1 : n < 32) (x : B32) (W : World) => turn_calls x n h0 h1 W)
  have R7 : Aside0 (∀ x W, Calls Tryd.prog 81 #[.int .u32 (U x), .int .u64 7] W fun e w' => e = .returned (.int .u32 (U (rotr x 7))) ∧ w' = W) := ⟨RT.out 7 (by decide) (by decide)⟩
  have R18 : Aside0 (∀ x W, Calls Tryd.prog 81 #[.int .u32 (U x), .int .u64 18] W fun e w' => e = .returned (.int .u32 (U (rotr x 18))) ∧ w' = W) := ⟨RT.out 18 (by decide) (by decide)⟩
  have R17 : Aside0 (∀ x W, Calls Tryd.prog 81 #[.int .u32 (U x), .int .u64 17] W fun e w' => e = .returned (.int .u32 (U (rotr x 17))) ∧ w' = W) := ⟨RT.out 17 (by decide) (by decide)⟩
  have R19 : Aside0 (∀ x W, Calls Tryd.prog 81 #[.int .u32 (U x), .int .u64 19] W fun e w' => e = .returned (.int .u32 (U (rotr x 19))) ∧ w' = W) := ⟨RT.out 19 (by decide) (by decide)⟩
  clear RT
  have hu53 := Tryd.underlying85
  have hu85 := Tryd.underlying110
  have HK0 := Aside0.mk (Wk.start w b)
  have HB := Aside0.mk hb
  clear hb
  go_enter Tryd.func57, Tryd.ntmps57
  go_wp2
  go_loopg [4] 64 (fun g v4 wx => ∃ i : Nat, i + g = 64 ∧ v4 = .int .i64 (i : Int) ∧ Aside0 (Wk w.heap.size w wx b (if i ≤ 16 then filled (first b i) else filled (more b (i - 16)))))
  case atStart => exact ⟨0, by omega, rfl, HK0⟩
  case round =>
    clear HK0
    obtain ⟨i, hig, rfl, HK⟩ := hrel
    cases gk with
    | zero =>
      obtain rfl : i = 64 := by omega
      have HK3 : Aside0 (Wk w.heap.size w wr b (sched b)) := by
        have e : filled (more b 48) = sched b := by
          unfold filled
          rw [more_len, Nat.sub_self]
          show more b 48 ++ [] = _
          rw [List.append_nil, sched]
        rw [← e]; exact HK
      clear HK
      have d1 : decide ((64 : Int) < 64) = false := decide_eq_false (by omega)
      go_wp2_with (first
        | ((with_reducible refine gate_dst (N := 73) rfl ?_); refine wpList_load_mid rfl 110 (.tmp 3) rfl (w.heap.size + 1 + 1) 0 rfl ((sched b).map wcell) _ (range_row HK3.out.wb) Tryd.underlying110 rfl (by rw [List.length_map, sched_len]; kernel_rfl) ?_)
        | ((with_reducible refine gate_store (t := 110) (p := 2) rfl ?_); refine wpList_store_row' rfl 110 (.tmp 2) (.tmp 73) rfl (w.heap.size + 1) 110 (warr (List.replicate 64 0)) (warr (sched b)) rfl rfl HK3.out.rb (by rw [warr, List.size_toArray, List.length_map, sched_len]; kernel_rfl) (by rw [warr, warr, List.size_toArray, List.size_toArray, List.length_map, List.length_map, sched_len]; rfl) (all_oneCell_toArray fun u hu => by obtain ⟨y, _, rfl⟩ := List.mem_map.1 hu; rfl) ?_; intro w9 hw9; have HX9 : Aside0 (w9.heap[w.heap.size + 1]? = some (.cells (warr (sched b)) 110 (0, 0))) := ⟨by rw [hw9]; exact setRow_heap _ _ _ _ _ _ HK3.out.rb⟩; have HB9 : Aside0 (Below w.heap.size w w9) := ⟨by rw [hw9]; exact below_setRow HK3.out.below (Nat.le_succ _) _⟩; clear hw9))
      exact bodyPost_ret (v := .agg (warr (sched b))) (results_cell_row rfl _ _ (w.heap.size + 1) 110 (warr (sched b)) (0, 0) _ rfl HX9.out Tryd.underlying110 rfl (by rw [warr, List.size_toArray, List.length_map, sched_len]; kernel_rfl)) rfl ⟨rfl, HB9.out⟩
    | succ k1 =>
      have d1 : decide ((i : Int) < 64) = true := decide_eq_true (by omega)
      by_cases hi : i < 16
      · have d2 : decide ((i : Int) < 16) = true := decide_eq_true (by omega)
        have HK1 : Aside0 (Wk w.heap.size w wr b (inWork b i 0)) := ⟨by rw [inWork_zero b i (by omega)]; have := HK.out; rw [if_pos (by omega)] at this; exact this⟩
        clear HK
        go_wp2
        go_loopg [5] 4 (fun g v5 wx => ∃ j : Nat, j + g = 4 ∧ v5 = .int .i64 (j : Int) ∧ Aside0 (Wk w.heap.size w wx b (inWork b i j)))
        case atStart => exact ⟨0, by omega, rfl, HK1⟩
        case round =>
          clear HK1
          obtain ⟨j, hjg, rfl, HK⟩ := hrel
          cases gk with
          | zero =>
            obtain rfl : j = 4 := by omega
            go_wp2
            go_roundg k1
            case measure => omega
            case rel =>
              refine ⟨i + 1, by omega, by go_num, ⟨?_⟩⟩
              rw [if_pos (by omega), ← inWork_four b i (by omega)]
              exact HK.out
          | succ k2 =>
            have e0 : (4 * (i : Int) + (j : Int)).toNat = 4 * i + j := by omega
            have p0 : (0 ≤ 4 * (i : Int) + (j : Int)) = True := eq_true (by omega)
            have q0 : (4 * (i : Int) + (j : Int) < 64) = True := eq_true (by omega)
            have p9 : (0 ≤ (i : Int)) = True := eq_true (by omega)
            have q9 : ((i : Int) < 64) = True := eq_true (by omega)
            have d3 : decide ((j : Int) < 4) = true := decide_eq_true (by omega)
            have wr_ : ∀ x : Int, 0 ≤ x → x < 1000 → IntKind.i64.wrap x = x := fun x h0 h1 => by rw [IntKind.wrap_i64]; omega
            have m0 := wr_ (4 * (i : Int)) (by omega) (by omega)
            have m1 := wr_ (4 * (i : Int) + (j : Int)) (by omega) (by omega)
            clear wr_
            go_wp2
            refine wp_region_still_tail 14 (by kernel_rfl) (by kernel_rfl) ?_
            change wpStill _ _ (World.drew wr) (fun a' => wpList _ _ _ _ a' (World.drew wr)) _ _
            have HK2 := Aside0.mk (HK.out.keep (below_drew (Below.refl _ wr)))
            generalize World.drew wr = w2 at HK2 ⊢
            have y0 := HK2.out.byte (4 * i + j) (by rw [HB.out]; omega)
            have y1 := HK2.out.word i (by rw [inWork_len _ _ _ (by omega)]; omega)
            rw [inWork_get b i j (by omega)] at y1
            obtain ⟨x0, hx0⟩ : ∃ x, b.getD (4 * i + j) 0 = x := ⟨_, rfl⟩
            obtain ⟨xp, hxp⟩ : ∃ x, pv b i j = x := ⟨_, rfl⟩
            have HPV := Aside0.mk (show pv b i (j + 1) = xp <<< (8 : Nat) + BitVec.ofNat 32 x0.toNat from by rw [pv, hx0, hxp])
            rw [hx0] at y0
            rw [hxp] at y1
            have y5 := HK2.out.fro i
            clear hx0 hxp HK
            simp only [List.take_succ_cons, List.take_zero, List.drop_succ_cons, List.drop_zero]
            repeat still_step
            refine wpStill_nil ?_
            change wpList _ _ _ _ _ w2
            go_wp2
            clear m0 m1
            go_roundg k2
            case measure => omega
            case rel =>
              refine ⟨j + 1, by omega, by go_num, ⟨?_⟩⟩
              rw [← inWork_set, HPV.out]
              exact HK2.out.set i _
      · have d2 : decide ((i : Int) < 16) = false := decide_eq_false (by omega)
        obtain ⟨n, hn⟩ : ∃ n, i = 16 + n := ⟨i - 16, by omega⟩
        have HK1 : Aside0 (Wk w.heap.size w wr b (filled (more b n))) := ⟨by
          have := HK.out
          by_cases h16 : i ≤ 16
          · obtain rfl : n = 0 := by omega
            rw [if_pos h16, show i = 16 from by omega] at this
            exact this
          · rw [if_neg h16, show i - 16 = n from by omega] at this
            exact this⟩
        clear HK
        have e15 : ((i : Int) - 15).toNat = i - 15 := by omega
        have e2 : ((i : Int) - 2).toNat = i - 2 := by omega
        have e16 : ((i : Int) - 16).toNat = i - 16 := by omega
        have e7 : ((i : Int) - 7).toNat = i - 7 := by omega
        have a15 : (0 ≤ (i : Int) - 15) = True := eq_true (by omega)
        have a2 : (0 ≤ (i : Int) - 2) = True := eq_true (by omega)
        have a16 : (0 ≤ (i : Int) - 16) = True := eq_true (by omega)
        have a7 : (0 ≤ (i : Int) - 7) = True := eq_true (by omega)
        have s15 : (15 ≤ (i : Int)) = True := eq_true (by omega)
        have s2 : (2 ≤ (i : Int)) = True := eq_true (by omega)
        have s16 : (16 ≤ (i : Int)) = True := eq_true (by omega)
        have s7 : (7 ≤ (i : Int)) = True := eq_true (by omega)
        have b15 : ((i : Int) - 15 < 64) = True := eq_true (by omega)
        have b2 : ((i : Int) - 2 < 64) = True := eq_true (by omega)
        have b16 : ((i : Int) - 16 < 64) = True := eq_true (by omega)
        have b7 : ((i : Int) - 7 < 64) = True := eq_true (by omega)
        have p9 : (0 ≤ (i : Int)) = True := eq_true (by omega)
        have q9 : ((i : Int) < 64) = True := eq_true (by omega)
        obtain ⟨l, hl⟩ : ∃ l, more b n = l := ⟨_, rfl⟩
        have hll : l.length = 16 + n := by rw [← hl]; exact more_len b n
        rw [hl] at HK1
        obtain ⟨x15, hx15⟩ : ∃ x, l.getD (i - 15) 0 = x := ⟨_, rfl⟩
        obtain ⟨x2, hx2⟩ : ∃ x, l.getD (i - 2) 0 = x := ⟨_, rfl⟩
        obtain ⟨x16, hx16⟩ : ∃ x, l.getD (i - 16) 0 = x := ⟨_, rfl⟩
        obtain ⟨x7, hx7⟩ : ∃ x, l.getD (i - 7) 0 = x := ⟨_, rfl⟩
        have hlj : l.length = i := by omega
        have HN := Aside0.mk (show filled (more b (n + 1)) = (filled l).set i ((rotr x2 17 ^^^ rotr x2 19 ^^^ x2 >>> (10 : Nat)) + x7 + (rotr x15 7 ^^^ rotr x15 18 ^^^ x15 >>> (3 : Nat)) + x16) from by
          have hcm : (rotr x2 17 ^^^ rotr x2 19 ^^^ x2 >>> (10 : Nat)) + x7 + (rotr x15 7 ^^^ rotr x15 18 ^^^ x15 >>> (3 : Nat)) + x16 = x16 + (rotr x15 7 ^^^ rotr x15 18 ^^^ x15 >>> (3 : Nat)) + x7 + (rotr x2 17 ^^^ rotr x2 19 ^^^ x2 >>> (10 : Nat)) := by
            ac_rfl
          rw [hcm]
          have := filled_set l (x16 + (rotr x15 7 ^^^ rotr x15 18 ^^^ x15 >>> (3 : Nat)) + x7 + (rotr x2 17 ^^^ rotr x2 19 ^^^ x2 >>> (10 : Nat))) (by omega)
          rw [hlj] at this
          rw [this, more, hl]
          unfold next
          rw [hlj, hx15, hx2, hx16, hx7])
        have KW := Aside0.mk (show ∀ W, Wk w.heap.size w W b (filled l) → (W.cell? ⟨w.heap.size + 1 + 1, i - 15, none⟩ = some (.int .u32 (U x15)) ∧ W.cell? ⟨w.heap.size + 1 + 1, i - 2, none⟩ = some (.int .u32 (U x2))) ∧ (W.cell? ⟨w.heap.size + 1 + 1, i - 16, none⟩ = some (.int .u32 (U x16)) ∧ W.cell? ⟨w.heap.size + 1 + 1, i - 7, none⟩ = some (.int .u32 (U x7))) from fun W hk => by
          have fl := filled_len l (by omega)
          have c15 := hk.word (i - 15) (by omega)
          have c2 := hk.word (i - 2) (by omega)
          have c16 := hk.word (i - 16) (by omega)
          have c7 := hk.word (i - 7) (by omega)
          rw [filled_get l _ (by omega)] at c15 c2 c16 c7
          rw [hx15] at c15
          rw [hx2] at c2
          rw [hx16] at c16
          rw [hx7] at c7
          exact ⟨⟨c15, c2⟩, c16, c7⟩)
        have HLJ := Aside0.mk hlj
        have HNI := Aside0.mk hn
        have HIG := Aside0.mk hig
        clear hx15 hx2 hx16 hx7 hl hll hlj hn
        obtain ⟨⟨c15, c2⟩, _, _⟩ := KW.out _ HK1.out
        have wr_ : ∀ x : Int, 0 ≤ x → x < 1000 → IntKind.i64.wrap x = x := fun x h0 h1 => by rw [IntKind.wrap_i64]; omega
        have m15 := wr_ ((i : Int) - 15) (by omega) (by omega)
        have m2 := wr_ ((i : Int) - 2) (by omega) (by omega)
        have m16 := wr_ ((i : Int) - 16) (by omega) (by omega)
        have m7 := wr_ ((i : Int) - 7) (by omega) (by omega)
        clear wr_
        go_wp2_with (first | (go_at_call 81; ((with_reducible refine (R7.out _ _).mono ?_)); rintro e w2 ⟨rfl, hw⟩; rw [hw]; clear hw) | (go_at_call 81; ((with_reducible refine (R18.out _ _).mono ?_)); rintro e w2 ⟨rfl, hw⟩; rw [hw]; clear hw) | (go_at_call 81; ((with_reducible refine (R17.out _ _).mono ?_)); rintro e w2 ⟨rfl, hw⟩; rw [hw]; clear hw) | (go_at_call 81; ((with_reducible refine (R19.out _ _).mono ?_)); rintro e w2 ⟨rfl, hw⟩; rw [hw]; clear hw))
        have HK5 : Aside0 (Wk w.heap.size w wr b (filled l)) := HK1
        clear c15 c2 HK1
        refine wp_region_still_tail 15 (by kernel_rfl) (by kernel_rfl) ?_
        change wpStill _ _ (World.drew wr) (fun a' => wpList _ _ _ _ a' (World.drew wr)) _ _
        have HK6 := Aside0.mk (HK5.out.keep (below_drew (Below.refl _ wr)))
        generalize World.drew wr = w6 at HK6 ⊢
        obtain ⟨⟨_, _⟩, c16, c7⟩ := KW.out _ HK6.out
        have hj64 : i < 64 := by omega
        have y4 := HK6.out.word i (by rw [filled_len _ (by rw [HLJ.out]; omega)]; exact hj64)
        have y5 := HK6.out.fro i
        clear hj64
        simp only [List.take_succ_cons, List.take_zero, List.drop_succ_cons, List.drop_zero]
        repeat still_step
        refine wpStill_nil ?_
        change wpList _ _ _ _ _ w6
        go_wp2
        clear m15 m2 m16 m7
        go_roundg k1
        case measure => omega
        case rel =>
          have hn := HNI.out
          refine ⟨i + 1, by omega, by go_num, ⟨?_⟩⟩
          rw [if_neg (by omega), show i + 1 - 16 = n + 1 from by omega, HN.out]
          exact HK6.out.set i _
end Go.Proofs.YtbllmpfdhcbkpaaDoor.Sha
/- The document's SHA-256: a block. -/
namespace Go.Proofs.YtbllmpfdhcbkpaaDoor.Sha
open Go.Proofs.YtbllmpfdhcbkpaaDoor.OrdersBut Go.RowKit Go.Proofs.YtbllmpfdhcbkpaaDoorW.PrintWords Go.Proofs.YtbllmpfdhcbkpaaDoorW.PrintLast Go.Proofs.YtbllmpfdhcbkpaaDoorW.PrintMore Go.Proofs.YtbllmpfdhcbkpaaDoor.Bytes
set_option linter.unusedVariables false
set_option linter.unusedSimpArgs false
theorem setCell_rowT (w : World) (b i : Nat) (cs : List Value) (v : Value) (t : TypeId) (hg : w.heap[b]? = some (.cells cs.toArray t (0, 0))) : w.setCell ⟨b, i, none⟩ v = w.setRow b (cs.set i v).toArray := by
  rw [setCell_eq_setRow w b i _ _ _ v hg]
  simp
theorem setCells_rowT (w : World) (b : Nat) (vs : List Value) (t : TypeId) : ∀ (o : Nat) (cs : List Value), w.heap[b]? = some (.cells cs.toArray t (0, 0)) → o + vs.length ≤ cs.length → w.setCells b o vs = w.setRow b (cs.take o ++ vs ++ cs.drop (o + vs.length)).toArray := by
  induction vs generalizing w with
  | nil =>
    intro o cs hg hl
    rw [World.setCells]
    simp
    exact (setRow_self w b _ _ _ hg).symm
  | cons v r ih =>
    intro o cs hg hl
    rw [List.length_cons] at hl
    rw [World.setCells, setCell_rowT w b o cs v t hg, ih _ (o + 1) (cs.set o v) (by rw [setRow_heap w b _ _ _ _ hg]) (by rw [List.length_set]; omega), setRow_setRow]
    congr 2
    rw [List.take_add_one, List.take_set_of_le (Nat.le_refl _), List.getElem?_set_self (by omega), List.drop_set_of_lt (by omega)]
    simp
    rw [show o + 1 + r.length = o + (r.length + 1) from by omega]
/-- The boxes of the document's Block: the words that came in, the answer, the schedule, the constants, the words at work. -/
structure Rk (h p5 p6 p7 : Nat) (w W : World) (v0 : V8) (ws x : List B32) : Prop where
  hb : W.heap[h]? = some (.cells v0.cells 84 (0, 0))
  rb : W.heap[h + 1 + 1]? = some (.cells (V8.cells ⟨0, 0, 0, 0, 0, 0, 0, 0⟩) 84 (0, 0))
  wb : W.heap[p5]? = some (.cells (warr ws) 110 (0, 0))
  kb : W.heap[p6]? = some (.cells (warr K) 110 (0, 0))
  xb : W.heap[p7]? = some (.cells (warr x) 84 (0, 0))
  o5 : h + 1 + 1 < p5
  o6 : p5 < p6
  o7 : p6 < p7
  below : Below h w W
section
variable {h p5 p6 p7 : Nat} {w W W2 : World} {v0 : V8} {ws x : List B32}
theorem Rk.lt (k : Rk h p5 p6 p7 w W v0 ws x) : p7 < W.heap.size := (Array.getElem?_eq_some_iff.1 k.xb).1
theorem Rk.keep (k : Rk h p5 p6 p7 w W v0 ws x) (hb : Below W.heap.size W W2) : Rk h p5 p6 p7 w W2 v0 ws x := by
  have z := k.lt
  have z5 := k.o5
  have z6 := k.o6
  have z7 := k.o7
  exact ⟨(hb.block _ (by omega)).trans k.hb, (hb.block _ (by omega)).trans k.rb, (hb.block _ (by omega)).trans k.wb, (hb.block _ (by omega)).trans k.kb, (hb.block _ (by omega)).trans k.xb, z5, z6, z7, k.below.trans (hb.mono (by omega))⟩
theorem word_at {W : World} {p i : Nat} {l : List B32} {t : TypeId} (hb : W.heap[p]? = some (.cells (warr l) t (0, 0))) (hi : i < l.length) : W.cell? ⟨p, i, none⟩ = some (.int .u32 (U (l.getD i 0))) := by
  simp [World.cell?, hb, warr, List.getElem?_map, List.getElem?_eq_getElem hi, List.getD_eq_getElem?_getD, wcell]
theorem Rk.row (k : Rk h p5 p6 p7 w W v0 ws x) (y : List B32) : Rk h p5 p6 p7 w (W.setRow p7 (warr y)) v0 ws y := by
  have z := k.lt
  have z5 := k.o5
  have z6 := k.o6
  have z7 := k.o7
  exact ⟨(setRow_other _ _ _ _ (by omega)).trans k.hb, (setRow_other _ _ _ _ (by omega)).trans k.rb, (setRow_other _ _ _ _ (by omega)).trans k.wb, (setRow_other _ _ _ _ (by omega)).trans k.kb, setRow_heap _ _ _ _ _ _ k.xb, z5, z6, z7, below_setRow k.below (by omega) _⟩
theorem Rk.put (k : Rk h p5 p6 p7 w W v0 ws x) (y : V8) (hx : x.length = 8) : Rk h p5 p6 p7 w (W.setCells p7 0 y.cells.toList) v0 ws y.words := by
  have e := setCells_rowT W p7 y.cells.toList 84 0 (x.map wcell) k.xb (by rw [List.length_map, hx]; show 0 + 8 ≤ 8; omega)
  rw [e]
  have e2 : ((x.map wcell).take 0 ++ y.cells.toList ++ (x.map wcell).drop (0 + y.cells.toList.length)).toArray = warr y.words := by
    rw [List.take_zero, List.nil_append, List.drop_of_length_le (by rw [List.length_map, hx]; show 8 ≤ 0 + 8; omega), List.append_nil]
    rfl
  rw [e2]
  exact k.row _
theorem Rk.set (k : Rk h p5 p6 p7 w W v0 ws x) (i : Nat) (u : B32) : Rk h p5 p6 p7 w (W.setCell ⟨p7, i, none⟩ (.int .u32 (U u))) v0 ws (x.set i u) := by
  rw [setCell_rowT W p7 i (x.map wcell) _ 84 k.xb]
  have e : ((x.map wcell).set i (.int .u32 (U u))).toArray = warr (x.set i u) := by rw [warr, List.map_set]; rfl
  rw [e]
  exact k.row _
end
/-- The words at work, the first i of them summed with those that came in. -/
def mixw (v r : V8) (i : Nat) : List B32 := (vadd v r).words.take i ++ r.words.drop i
theorem mixw_len (v r : V8) (i : Nat) (h : i ≤ 8) : (mixw v r i).length = 8 := by
  have h1 : (vadd v r).words.length = 8 := rfl
  have h2 : r.words.length = 8 := rfl
  rw [mixw, List.length_append, List.length_take, List.length_drop, h1, h2]
  omega
theorem mixw_get (v r : V8) (i : Nat) (h : i < 8) : (mixw v r i).getD i 0 = r.words.getD i 0 := by
  match i, h with
  | 0, _ => rfl
  | 1, _ => rfl
  | 2, _ => rfl
  | 3, _ => rfl
  | 4, _ => rfl
  | 5, _ => rfl
  | 6, _ => rfl
  | 7, _ => rfl
theorem mixw_set (v r : V8) (i : Nat) (h : i < 8) : (mixw v r i).set i (r.words.getD i 0 + v.words.getD i 0) = mixw v r (i + 1) := by
  rw [BitVec.add_comm]
  match i, h with
  | 0, _ => rfl
  | 1, _ => rfl
  | 2, _ => rfl
  | 3, _ => rfl
  | 4, _ => rfl
  | 5, _ => rfl
  | 6, _ => rfl
  | 7, _ => rfl
attribute [local go_sem] U_xor U_and U_or U_add U_add' u32_signed u32_max
set_option maxRecDepth 100000 in
set_option maxHeartbeats 4000000 in
theorem rblock_calls (v : V8) (b : List UInt8) (hb : b.length = 64) (w : World) : Calls Tryd.prog 42 #[.agg v.cells, .agg (b.map bcell).toArray] w fun e w' => e = .returned (.agg (block v b).cells) ∧ Below w.heap.size w w' := by
  obtain ⟨bv, hbv⟩ : ∃ bv, block v b = bv := ⟨_, rfl⟩
  have HBV := Aside0.mk hbv
  rw [hbv]
  clear hbv
  have hu53 := Tryd.underlying85
  have hu85 := Tryd.underlying110
  have hu70 := Tryd.underlying84
  have HB := Aside0.mk hb
  have CW := Aside0.mk (fun W => words_calls b hb W)
  clear hb
  obtain ⟨W1, hW1⟩ : ∃ W1, ((w.alloc (.cells v.cells 84)).alloc (.cells (barr b) 85)).alloc (.cells (V8.cells ⟨0, 0, 0, 0, 0, 0, 0, 0⟩) 84) = W1 := ⟨_, rfl⟩
  have a1 : ∀ (W : World) (o : Obj), (W.alloc o).heap.size = W.heap.size + 1 := fun W o => Array.size_push _
  have a2 : ∀ (W : World) (o : Obj) (k : Nat), k < W.heap.size → (W.alloc o).heap[k]? = W.heap[k]? := fun W o k hk => ((Below.refl W.heap.size W).alloc (Nat.le_refl _) o).block k hk
  have a3 : ∀ (W : World) (o : Obj) (k : Nat), k = W.heap.size → (W.alloc o).heap[k]? = some o := fun W o k hk => by rw [hk]; exact World.alloc_heap_new W o
  have HB1 : Aside0 (Below w.heap.size w W1 ∧ W1.heap.size = w.heap.size + 1 + 1 + 1) := ⟨by rw [← hW1]; exact ⟨(((Below.refl _ w).alloc (Nat.le_refl _) _).alloc (by simp only [a1]; omega) _).alloc (by simp only [a1]; omega) _, by simp only [a1]⟩⟩
  have HX1 : Aside0 (W1.heap[w.heap.size]? = some (.cells v.cells 84 (0, 0)) ∧ W1.heap[w.heap.size + 1]? = some (.cells (barr b) 85 (0, 0)) ∧ W1.heap[w.heap.size + 1 + 1]? = some (.cells (V8.cells ⟨0, 0, 0, 0, 0, 0, 0, 0⟩) 84 (0, 0))) := ⟨by
    rw [← hW1]
    refine ⟨?_, ?_, ?_⟩
    · rw [a2 _ _ _ (by simp only [a1]; omega), a2 _ _ _ (by simp only [a1]; omega), a3 _ _ _ rfl]
    · rw [a2 _ _ _ (by simp only [a1]; omega), a3 _ _ _ (by simp only [a1])]
    · rw [a3 _ _ _ (by simp only [a1])]⟩
  have A3 := Aside0.mk a3
  clear a1 a2 a3
  go_enter Tryd.func42, Tryd.ntmps42
  go_upto_region 1 with fail
  change Code.wp _ _ _ _ (((w.alloc (.cells v.cells 84)).alloc (.cells (barr b) 85)).alloc (.cells (V8.cells ⟨0, 0, 0, 0, 0, 0, 0, 0⟩) 84))
  rw [hW1]
  clear hW1
  go_wp2_with (first
    | ((with_reducible refine gate_dst (N := 10) rfl ?_); refine wpList_load_mid rfl 85 (.tmp 3) rfl (w.heap.size + 1) 0 rfl (b.map bcell) _ (range_row HX1.out.2.1) Tryd.underlying85 rfl (by rw [List.length_map, HB.out]; kernel_rfl) ?_)
    | (go_at_call 57; ((with_reducible refine (CW.out W1).mono ?_)); rintro e w2 ⟨rfl, hb2⟩; have HB2 := Aside0.mk hb2; clear hb2)
    | ((with_reducible refine gate_store (t := 110) (p := 5) rfl ?_); refine wpList_store_row' rfl 110 (.tmp 5) (.tmp 11) rfl w2.heap.size 110 (warr (List.replicate 64 0)) (warr (sched b)) rfl rfl (World.alloc_heap_new w2 _) (by rw [warr, List.size_toArray, List.length_map, sched_len]; kernel_rfl) (by rw [warr, warr, List.size_toArray, List.size_toArray, List.length_map, List.length_map, sched_len]; rfl) (all_oneCell_toArray fun u hu => by obtain ⟨y, _, rfl⟩ := List.mem_map.1 hu; rfl) ?_; intro w3 hw3; have HB3 : Aside0 (Below w2.heap.size w2 w3 ∧ w3.heap[w2.heap.size]? = some (.cells (warr (sched b)) 110 (0, 0))) := ⟨by rw [hw3]; exact ⟨below_setRow ((Below.refl _ _).alloc (Nat.le_refl _) _) (Nat.le_refl _) _, setRow_heap _ _ _ _ _ _ (World.alloc_heap_new w2 _)⟩⟩; clear hw3)
    | (go_at_call 58; ((with_reducible refine (constants_calls w3).mono ?_)); rintro e w4 ⟨rfl, hb4⟩; have HB4 := Aside0.mk hb4; clear hb4)
    | ((with_reducible refine gate_store (t := 110) (p := 6) rfl ?_); refine wpList_store_row' rfl 110 (.tmp 6) (.tmp 12) rfl w4.heap.size 110 (warr (List.replicate 64 0)) (warr K) rfl rfl (World.alloc_heap_new w4 _) (by kernel_rfl) (by kernel_rfl) (by kernel_rfl) ?_; intro w5 hw5; have HB5 : Aside0 (Below w4.heap.size w4 w5 ∧ w5.heap[w4.heap.size]? = some (.cells (warr K) 110 (0, 0))) := ⟨by rw [hw5]; exact ⟨below_setRow ((Below.refl _ _).alloc (Nat.le_refl _) _) (Nat.le_refl _) _, setRow_heap _ _ _ _ _ _ (World.alloc_heap_new w4 _)⟩⟩; clear hw5; have HV5 : Aside0 (w5.heap[w.heap.size]? = some (.cells v.cells 84 (0, 0))) := ⟨by have z1 := HB1.out.2; have z2 := HB2.out.size; have z3 := HB3.out.1.size; have z4 := HB4.out.size; rw [HB5.out.1.block _ (by omega), HB4.out.block _ (by omega), HB3.out.1.block _ (by omega), HB2.out.block _ (by omega)]; exact HX1.out.1⟩)
    | ((with_reducible refine gate_dst (N := 13) rfl ?_); refine wpList_load_mid rfl 84 (.tmp 2) rfl w.heap.size 0 rfl (v.words.map wcell) _ (range_row HV5.out) Tryd.underlying84 rfl (by kernel_rfl) ?_)
    | ((with_reducible refine gate_store (t := 84) (p := 7) rfl ?_); refine wpList_store_row' rfl 84 (.tmp 7) (.tmp 13) rfl w5.heap.size 84 (V8.cells ⟨0, 0, 0, 0, 0, 0, 0, 0⟩) (warr v.words) rfl rfl (World.alloc_heap_new w5 _) (by kernel_rfl) (by kernel_rfl) (by kernel_rfl) ?_; intro w6 hw6; have HB6 : Aside0 (Below w5.heap.size w5 w6 ∧ w6.heap[w5.heap.size]? = some (.cells (warr v.words) 84 (0, 0))) := ⟨by rw [hw6]; exact ⟨below_setRow ((Below.refl _ _).alloc (Nat.le_refl _) _) (Nat.le_refl _) _, setRow_heap _ _ _ _ _ _ (World.alloc_heap_new w5 _)⟩⟩; clear hw6))
  have HK0 : Aside0 (Rk w.heap.size w2.heap.size w4.heap.size w5.heap.size w w6 v (sched b) v.words) := ⟨by
    have z1 := HB1.out.2
    have z2 := HB2.out.size
    have z3 := HB3.out.1.size
    have z4 := HB4.out.size
    have z5 := HB5.out.1.size
    have z6 := HB6.out.1.size
    have l3 := (Array.getElem?_eq_some_iff.1 HB3.out.2).1
    have l5 := (Array.getElem?_eq_some_iff.1 HB5.out.2).1
    refine ⟨?_, ?_, ?_, ?_, HB6.out.2, by omega, by omega, by omega, ?_⟩
    · rw [HB6.out.1.block _ (by omega)]; exact HV5.out
    · rw [HB6.out.1.block _ (by omega), HB5.out.1.block _ (by omega), HB4.out.block _ (by omega), HB3.out.1.block _ (by omega), HB2.out.block _ (by omega)]; exact HX1.out.2.2
    · rw [HB6.out.1.block _ (by omega), HB5.out.1.block _ (by omega), HB4.out.block _ (by omega)]; exact HB3.out.2
    · rw [HB6.out.1.block _ (by omega)]; exact HB5.out.2
    · exact HB1.out.1.trans ((HB2.out.mono (by omega)).trans ((HB3.out.1.mono (by omega)).trans ((HB4.out.mono (by omega)).trans ((HB5.out.1.mono (by omega)).trans (HB6.out.1.mono (by omega))))))⟩
  obtain ⟨ws, hws⟩ : ∃ ws, sched b = ws := ⟨_, rfl⟩
  have HWS := Aside0.mk hws
  have HWL := Aside0.mk (show ws.length = 64 from by rw [← hws]; exact sched_len b)
  rw [hws] at HK0
  generalize w2.heap.size = p5 at HK0 ⊢
  generalize w4.heap.size = p6 at HK0 ⊢
  generalize w5.heap.size = p7 at HK0 ⊢
  clear hws HB1 HB2 HB3 HB4 HB5 HB6 HV5 HX1
  go_loopg [8] 64 (fun g v8 wx => ∃ i : Nat, i + g = 64 ∧ v8 = .int .i64 (i : Int) ∧ Aside0 (Rk w.heap.size p5 p6 p7 w wx v ws (rounds ws v i).words))
  case atStart => exact ⟨0, by omega, rfl, HK0⟩
  case round =>
    clear HK0
    obtain ⟨i, hig, rfl, HK⟩ := hrel
    cases gk with
    | zero =>
      have hi64 : i = 64 := by omega
      subst hi64
      obtain ⟨r, hr⟩ : ∃ r, rounds ws v 64 = r := ⟨_, rfl⟩
      have HRR := Aside0.mk (show bv = vadd v r from by rw [← HBV.out]; unfold block; rw [HWS.out, hr])
      rw [hr] at HK
      have HK1 : Aside0 (Rk w.heap.size p5 p6 p7 w wr v ws (mixw v r 0)) := HK
      clear HK hr
      go_wp2
      go_loopg [9] 8 (fun g v9 wx => ∃ i : Nat, i + g = 8 ∧ v9 = .int .i64 (i : Int) ∧ Aside0 (Rk w.heap.size p5 p6 p7 w wx v ws (mixw v r i)))
      case atStart => exact ⟨0, by omega, rfl, HK1⟩
      case round =>
        clear HK1
        obtain ⟨i, hig, rfl, HK⟩ := hrel
        cases gk with
        | zero =>
          have hi8 : i = 8 := by omega
          subst hi8
          have HK2 : Aside0 (Rk w.heap.size p5 p6 p7 w wr v ws bv.words) := ⟨by
            rw [HRR.out]
            exact HK.out⟩
          clear HK
          go_wp2_with (first
            | ((with_reducible refine gate_dst (N := 39) rfl ?_); refine wpList_load_mid rfl 84 (.tmp 7) rfl p7 0 rfl (bv.words.map wcell) _ (range_row HK2.out.xb) Tryd.underlying84 rfl (by kernel_rfl) ?_)
            | ((with_reducible refine gate_store (t := 84) (p := 4) rfl ?_); refine wpList_store_row' rfl 84 (.tmp 4) (.tmp 39) rfl (w.heap.size + 1 + 1) 84 (V8.cells ⟨0, 0, 0, 0, 0, 0, 0, 0⟩) (warr bv.words) rfl rfl HK2.out.rb (by kernel_rfl) (by kernel_rfl) (by kernel_rfl) ?_; intro w9 hw9; have HX9 : Aside0 (w9.heap[w.heap.size + 1 + 1]? = some (.cells (warr bv.words) 84 (0, 0))) := ⟨by rw [hw9]; exact setRow_heap _ _ _ _ _ _ HK2.out.rb⟩; have HB9 : Aside0 (Below w.heap.size w w9) := ⟨by rw [hw9]; exact below_setRow HK2.out.below (by omega) _⟩; clear hw9))
          exact bodyPost_ret (v := .agg bv.cells) (results_cell_row rfl _ _ (w.heap.size + 1 + 1) 84 bv.cells (0, 0) _ rfl HX9.out Tryd.underlying84 rfl (by kernel_rfl)) rfl ⟨rfl, HB9.out⟩
        | succ k1 =>
          have hi : i < 8 := by omega
          have d1 : decide ((i : Int) < 8) = true := decide_eq_true (by omega)
          have p9 : (0 ≤ (i : Int)) = True := eq_true (by omega)
          have q9 : ((i : Int) < 8) = True := eq_true (by omega)
          have HI := Aside0.mk hi
          go_wp2
          refine wp_region_still_tail 8 (by kernel_rfl) (by kernel_rfl) ?_
          change wpStill _ _ (World.drew wr) (fun a' => wpList _ _ _ _ a' (World.drew wr)) _ _
          have HK2 := Aside0.mk (HK.out.keep (below_drew (Below.refl _ wr)))
          generalize World.drew wr = w2_ at HK2 ⊢
          have y1 := word_at (i := i) HK2.out.xb (by rw [mixw_len _ _ _ (by omega)]; exact hi)
          rw [mixw_get v r i hi] at y1
          have y2 := word_at (i := i) (l := v.words) (show w2_.heap[w.heap.size]? = some (.cells (warr v.words) 84 (0, 0)) from HK2.out.hb) hi
          have y5 := fro_of HK2.out.xb i
          clear HK hi
          simp only [List.take_succ_cons, List.take_zero, List.drop_succ_cons, List.drop_zero]
          repeat still_step
          refine wpStill_nil ?_
          change wpList _ _ _ _ _ w2_
          go_wp2
          go_roundg k1
          case measure => omega
          case rel =>
            refine ⟨i + 1, by omega, by go_num, ⟨?_⟩⟩
            rw [← mixw_set v r i HI.out]
            exact HK2.out.set i _
    | succ k1 =>
      have hi : i < 64 := by omega
      have d1 : decide ((i : Int) < 64) = true := decide_eq_true (by omega)
      have p9 : (0 ≤ (i : Int)) = True := eq_true (by omega)
      have q9 : ((i : Int) < 64) = True := eq_true (by omega)
      obtain ⟨x, hx⟩ : ∃ x, rounds ws v i = x := ⟨_, rfl⟩
      obtain ⟨ci, hci⟩ : ∃ x, K.getD i 0 = x := ⟨_, rfl⟩
      obtain ⟨wi, hwi⟩ : ∃ x, ws.getD i 0 = x := ⟨_, rfl⟩
      have HNX := Aside0.mk (show rounds ws v (i + 1) = stepV x (ci + wi) from by rw [rounds, hx, hci, hwi, step_round])
      rw [hx] at HK
      go_wp2
      have HK2 := Aside0.mk (HK.out.keep (below_drew (Below.refl _ wr)))
      have g1 := word_at (i := i) HK2.out.kb hi
      have g2 := word_at (i := i) HK2.out.wb (by rw [HWL.out]; exact hi)
      rw [hci] at g1
      rw [hwi] at g2
      have HELD := Aside0.mk (show wr.drew.rangeAt p7 0 (x.words.map wcell) ∧ wr.drew.cell? ⟨p6, i, none⟩ = some (.int .u32 (U ci)) ∧ wr.drew.cell? ⟨p5, i, none⟩ = some (.int .u32 (U wi)) from ⟨range_row HK2.out.xb, g1, g2⟩)
      have HC := Aside0.mk (show Calls Tryd.prog 59 #[.agg (x.words.map wcell).toArray, .int .u32 (U (ci + wi))] wr.drew fun e w' => e = .returned (.agg (stepV x (ci + wi)).cells) ∧ Below wr.drew.heap.size wr.drew w' from step_calls x (ci + wi) wr.drew)
      obtain ⟨y, hy⟩ : ∃ y, stepV x (ci + wi) = y := ⟨_, rfl⟩
      rw [hy] at HC HNX
      clear g1 g2 hx hci hwi HK hy hi
      refine wp_region_but 9 (fun W => W.rangeAt p7 0 (x.words.map wcell) ∧ W.cell? ⟨p6, i, none⟩ = some (.int .u32 (U ci)) ∧ W.cell? ⟨p5, i, none⟩ = some (.int .u32 (U wi))) (by kernel_rfl) ?_
      refine wpAnyB_load (i := 0) rfl (by kernel_rfl) (by kernel_rfl) (by kernel_rfl) (by decide) (by kernel_rfl) (by kernel_rfl) (fun _ _ _ h => h) (yieldsIf_load_mid (by kernel_rfl) 84 (.tmp 7) rfl p7 0 rfl (x.words.map wcell) _ (fun w h => h.1) Tryd.underlying84 rfl (by kernel_rfl)) HELD.out ?_
      try simp only [Act.put, List.setIfInBounds_toArray, List.set_cons_zero, List.set_cons_succ]
      refine wpAnyB_take (i := 1) rfl (by kernel_rfl) (by kernel_rfl) (by kernel_rfl) (by decide) (fun _ _ _ h => h) (Or.inl ⟨by kernel_rfl, fun w _ => by go_simp <;> with_reducible rfl⟩) (fun _ => HELD.out) ?_
      try simp only [Act.put, List.setIfInBounds_toArray, List.set_cons_zero, List.set_cons_succ]
      refine wpAnyB_take (i := 2) rfl (by kernel_rfl) (by kernel_rfl) (by kernel_rfl) (by decide) (fun _ _ _ h => h) (Or.inl ⟨by kernel_rfl, fun w _ => by go_simp <;> with_reducible rfl⟩) (fun _ => HELD.out) ?_
      try simp only [Act.put, List.setIfInBounds_toArray, List.set_cons_zero, List.set_cons_succ]
      refine wpAnyB_load (i := 3) rfl (by kernel_rfl) (by kernel_rfl) (by kernel_rfl) (by decide) (by kernel_rfl) (by kernel_rfl) (fun _ _ _ h => h) (Or.inl ⟨by kernel_rfl, fun w hS => by obtain ⟨_, c1, c2⟩ := hS; go_simp <;> with_reducible rfl⟩) HELD.out ?_
      try simp only [Act.put, List.setIfInBounds_toArray, List.set_cons_zero, List.set_cons_succ]
      refine wpAnyB_take (i := 4) rfl (by kernel_rfl) (by kernel_rfl) (by kernel_rfl) (by decide) (fun _ _ _ h => h) (Or.inl ⟨by kernel_rfl, fun w _ => by go_simp <;> with_reducible rfl⟩) (fun _ => HELD.out) ?_
      try simp only [Act.put, List.setIfInBounds_toArray, List.set_cons_zero, List.set_cons_succ]
      refine wpAnyB_take (i := 5) rfl (by kernel_rfl) (by kernel_rfl) (by kernel_rfl) (by decide) (fun _ _ _ h => h) (Or.inl ⟨by kernel_rfl, fun w _ => by go_simp <;> with_reducible rfl⟩) (fun _ => HELD.out) ?_
      try simp only [Act.put, List.setIfInBounds_toArray, List.set_cons_zero, List.set_cons_succ]
      refine wpAnyB_load (i := 6) rfl (by kernel_rfl) (by kernel_rfl) (by kernel_rfl) (by decide) (by kernel_rfl) (by kernel_rfl) (fun _ _ _ h => h) (Or.inl ⟨by kernel_rfl, fun w hS => by obtain ⟨_, c1, c2⟩ := hS; go_simp <;> with_reducible rfl⟩) HELD.out ?_
      try simp only [Act.put, List.setIfInBounds_toArray, List.set_cons_zero, List.set_cons_succ]
      refine wpAnyB_take (i := 7) rfl (by kernel_rfl) (by kernel_rfl) (by kernel_rfl) (by decide) (fun _ _ _ h => h) (Or.inl ⟨by kernel_rfl, fun w _ => by go_simp <;> with_reducible rfl⟩) (fun _ => HELD.out) ?_
      try simp only [Act.put, List.setIfInBounds_toArray, List.set_cons_zero, List.set_cons_succ]
      refine wpAnyB_one (i := 8) rfl (by kernel_rfl) (fun K9 hK => ?_)
      rw [if_pos (by kernel_rfl)]
      go_simp
      with_reducible refine HC.out.mono ?_
      rintro e w4_ ⟨rfl, hb4⟩
      have HK4 := Aside0.mk (HK2.out.keep hb4)
      have HELD4 := Aside0.mk (show w4_.rangeAt p7 0 (x.words.map wcell) ∧ w4_.cell? ⟨p6, i, none⟩ = some (.int .u32 (U ci)) ∧ w4_.cell? ⟨p5, i, none⟩ = some (.int .u32 (U wi)) from ⟨range_row HK4.out.xb, by
        have z := HK2.out.lt; have z7 := HK2.out.o7; unfold World.cell?; rw [hb4.block _ (by show p6 < _; omega)]; exact HELD.out.2.1, by
        have z := HK2.out.lt; have z7 := HK2.out.o7; have z6 := HK2.out.o6; unfold World.cell?; rw [hb4.block _ (by show p5 < _; omega)]; exact HELD.out.2.2⟩)
      refine hK _ _ (fun _ => HELD4.out) ?_
      clear hK K9 HELD HC hb4
      try simp only [Act.put, List.setIfInBounds_toArray, List.set_cons_zero, List.set_cons_succ]
      refine wpAnyB_one (i := 9) rfl (by kernel_rfl) (fun K9 hK => ?_)
      rw [if_pos (by kernel_rfl)]
      refine wp_store_mid 84 (.tmp 7) (.tmp 26) rfl p7 0 y.cells rfl rfl (fun j hj => ⟨HELD4.out.1.isSome j hj, fro_of HK4.out.xb _⟩) (by kernel_rfl) (by kernel_rfl) ?_
      refine hK _ _ (fun h => Bool.noConfusion (h.symm.trans (show _ = true by kernel_rfl))) ?_
      have HK5 := Aside0.mk (HK4.out.put y rfl)
      generalize w4_.setCells p7 0 y.cells.toList = w5_ at HK5 ⊢
      refine wpAnyB_done (by kernel_rfl) ?_ _
      clear hK K9 HELD4 HK4 HK2
      try simp only [Act.put, List.setIfInBounds_toArray, List.set_cons_zero, List.set_cons_succ]
      go_wp2
      go_roundg k1
      case measure => omega
      case rel =>
        refine ⟨i + 1, by omega, by go_num, ⟨?_⟩⟩
        rw [HNX.out]
        exact HK5.out
end Go.Proofs.YtbllmpfdhcbkpaaDoor.Sha
/- By a program of this session's: a plain Lean function for a Go function, and its contract. -/
namespace Go.Proofs.YtbllmpfdhcbkpaaDoor.Q
open Go.RowKit Go.Proofs.YtbllmpfdhcbkpaaDoorW.PrintWords Go.Proofs.YtbllmpfdhcbkpaaDoorW.PrintLast Go.Proofs.YtbllmpfdhcbkpaaDoorW.PrintMore
attribute [local go_sem] max2_int min2_int max_two min_two max_three min_three max_four min_four Go.Proofs.YtbllmpfdhcbkpaaDoor.Ord.str_leq Go.Proofs.YtbllmpfdhcbkpaaDoor.Ord.str_gtr Go.Proofs.YtbllmpfdhcbkpaaDoor.Ord.str_geq   -- for this text's walks alone
set_option linter.unusedVariables false
set_option linter.unusedSimpArgs false

/-! ### depotref01_Pad: function 40 -/
mutual
def depotref01_Pad.l0 : Nat → Int → ByteArray → Option (ByteArray)
  | 0, _, _ => none
  | k + 1, x0, x3 => if (Int.tmod (wrap64 ((Int.tmod x0 64) + (x3.size : Int))) 64) = 56 then (depotref01_Pad.l1 k x3 (IntKind.u64.wrap ((IntKind.u64.wrap (x0)) * 8)) 7) else (if x3.size + 1 ≤ 9223372036854775807 then (depotref01_Pad.l0 k x0 (x3 ++ (⟨#[0]⟩ : ByteArray))) else (none))
def depotref01_Pad.l1 : Nat → ByteArray → Int → Int → Option (ByteArray)
  | 0, _, _, _ => none
  | k + 1, x3, x4, x5 => if x5 ≥ 0 then (if 0 ≤ (IntKind.u64.wrap (wrap64 (8 * x5))) then ((some (([(Go.bits .and .u64 (shr .u64 x4 (IntKind.u64.wrap (wrap64 (8 * x5)))) 255) % 256] : List Int) : List Int)).bind fun y280 => (if x3.size + (strOfNums y280).size ≤ 9223372036854775807 then (depotref01_Pad.l1 k (x3 ++ (strOfNums y280)) x4 (wrap64 (x5 - 1))) else (none))) else (none)) else (some x3)
end
def depotref01_Pad.f (k : Nat) (a0 : Int) : Option (ByteArray) := if a0 < 0 then (some (⟨#[]⟩ : ByteArray)) else (depotref01_Pad.l0 k a0 (⟨#[128]⟩ : ByteArray))
theorem depotref01_Pad.mono_l : ∀ k, (∀ y0 y1, LeO (depotref01_Pad.l0 k y0 y1) (depotref01_Pad.l0 (k + 1) y0 y1)) ∧ (∀ y0 y1 y2, LeO (depotref01_Pad.l1 k y0 y1 y2) (depotref01_Pad.l1 (k + 1) y0 y1 y2))
  | 0 => ⟨fun _ _ r h => by simp [depotref01_Pad.l0] at h, fun _ _ _ r h => by simp [depotref01_Pad.l1] at h⟩
  | k + 1 => by
    obtain ⟨ih0, ih1⟩ := depotref01_Pad.mono_l k
    refine ⟨?_, ?_⟩
    · intro y0 y1
      unfold depotref01_Pad.l0
      repeat' first
      | (with_reducible exact ih0 _ _)
      | (with_reducible exact ih1 _ _ _)
      | (with_reducible exact LeO.refl _)
      | (with_reducible exact LeO.none _)
      | (with_reducible refine LeO.ite ?_ ?_)
      | (with_reducible refine LeO.bind ?_ (fun _ => ?_))
      | exact ih0 _ _
      | exact ih1 _ _ _
      | exact LeO.none _
      | refine LeO.ite ?_ ?_
      | refine LeO.bind ?_ (fun _ => ?_)
    · intro y0 y1 y2
      unfold depotref01_Pad.l1
      repeat' first
      | (with_reducible exact ih0 _ _)
      | (with_reducible exact ih1 _ _ _)
      | (with_reducible exact LeO.refl _)
      | (with_reducible exact LeO.none _)
      | (with_reducible refine LeO.ite ?_ ?_)
      | (with_reducible refine LeO.bind ?_ (fun _ => ?_))
      | exact ih0 _ _
      | exact ih1 _ _ _
      | exact LeO.none _
      | refine LeO.ite ?_ ?_
      | refine LeO.bind ?_ (fun _ => ?_)
theorem depotref01_Pad.mono : ∀ a0 k, LeO (depotref01_Pad.f k a0) (depotref01_Pad.f (k + 1) a0) := by
  intro a0 k
  obtain ⟨ih0, ih1⟩ := depotref01_Pad.mono_l k
  unfold depotref01_Pad.f
  repeat' first
      | (with_reducible exact ih0 _ _)
      | (with_reducible exact ih1 _ _ _)
      | (with_reducible exact LeO.refl _)
      | (with_reducible exact LeO.none _)
      | (with_reducible refine LeO.ite ?_ ?_)
      | (with_reducible refine LeO.bind ?_ (fun _ => ?_))
      | exact ih0 _ _
      | exact ih1 _ _ _
      | exact LeO.none _
      | refine LeO.ite ?_ ?_
      | refine LeO.bind ?_ (fun _ => ?_)
set_option maxHeartbeats 8000000 in
set_option maxRecDepth 100000 in
theorem depotref01_Pad.calls (k : Nat) (a0 : Int) (r : ByteArray) (w : World) (h : depotref01_Pad.f k a0 = some r) :
    Calls Tryd.prog 40 #[.int .i64 a0] w fun e w' => e = .returned (.string r) ∧ Below w.heap.size w w' := by
  have HB := Aside0.mk (Below.refl w.heap.size w)
  have H : (if a0 < 0 then (some (⟨#[]⟩ : ByteArray)) else (depotref01_Pad.l0 k a0 (⟨#[128]⟩ : ByteArray))) = some r := h
  clear h
  by_cases c2 : a0 < 0
  · rw [if_pos c2] at H
    have c2b0 : decide (a0 < 0) = true := decide_eq_true c2
    clear c2
    obtain rfl := Option.some.inj H
    go_enter Tryd.func40, Tryd.ntmps40
    go_wp2
    go_ret
    exact ⟨by first | rfl | (simp [errW_none, errW_some] <;> rfl) | (simp [*, errW_none, errW_some] <;> rfl), by repeat (first | (with_reducible first | exact HB.out | apply below_alloc | apply pw_below_drewN | apply below_drew1) | exact HB.out)⟩
  · rw [if_neg c2] at H
    have c2b0 : decide (a0 < 0) = false := decide_eq_false c2
    clear c2
    have H' := Aside0.mk H
    clear H
    go_enter Tryd.func40, Tryd.ntmps40
    go_wp2
    go_loopg [3] k (fun kq v3 w' => ∃ (x3_1 : ByteArray), v3 = .string x3_1 ∧ Aside0 (depotref01_Pad.l0 kq a0 x3_1 = some r) ∧ Aside0 (kq ≤ k) ∧ Aside0 (Below w.heap.size w w'))
    case atStart => exact ⟨((⟨#[128]⟩ : ByteArray)), (by first | rfl | (simp; done) | (simp [*]; done)), H', ⟨Nat.le_refl _⟩, ⟨by repeat (first | (with_reducible first | exact HB.out | apply below_alloc | apply pw_below_drewN | apply below_drew1) | exact HB.out)⟩⟩
    case round =>
      clear H'
      try clear c2
      try clear c2b0
      try clear p2
      obtain ⟨x3_1, rfl, HA, HK1, HB⟩ := hrel
      cases gk with
      | zero => exact absurd HA.out (by simp [depotref01_Pad.l0])
      | succ k1 =>
        have H := HA.out
        clear HA
        simp only [depotref01_Pad.l0] at H
        by_cases c3 : (Int.tmod (wrap64 ((Int.tmod a0 64) + (x3_1.size : Int))) 64) = 56
        · rw [if_pos c3] at H
          have c3b0 : ((Int.tmod (wrap64 ((Int.tmod a0 64) + (x3_1.size : Int))) 64) == 56) = true := beq_iff_eq.mpr c3
          have c3b1 : ((Int.tmod (wrap64 ((Int.tmod a0 64) + (x3_1.size : Int))) 64) != 56) = false := bne_eq_false_iff_eq.mpr c3
          clear c3
          have H' := Aside0.mk H
          clear H
          go_wp2
          go_loopg [3, 5] k1 (fun kq v3 v5 w' => ∃ (x3_2 : ByteArray) (x5_2 : Int), v3 = .string x3_2 ∧ v5 = .int .i64 x5_2 ∧ Aside0 (depotref01_Pad.l1 kq x3_2 (IntKind.u64.wrap ((IntKind.u64.wrap (a0)) * 8)) x5_2 = some r) ∧ Aside0 (kq ≤ k1) ∧ Aside0 (Below w.heap.size w w'))
          case atStart => exact ⟨(x3_1), (7), (by first | rfl | (simp; done) | (simp [*]; done)), (by first | rfl | (simp; done) | (simp [*]; done)), H', ⟨Nat.le_refl _⟩, ⟨by repeat (first | (with_reducible first | exact HB.out | apply below_alloc | apply pw_below_drewN | apply below_drew1) | exact HB.out)⟩⟩
          case round =>
            clear H'
            try clear c2
            try clear c2b0
            try clear p2
            try clear c3
            try clear c3b0
            try clear c3b1
            try clear p2
            obtain ⟨x3_2, x5_2, rfl, rfl, HA, HK2, HB⟩ := hrel
            cases gk with
            | zero => exact absurd HA.out (by simp [depotref01_Pad.l1])
            | succ k2 =>
              have H := HA.out
              clear HA
              simp only [depotref01_Pad.l1] at H
              by_cases c4 : x5_2 ≥ 0
              · rw [if_pos c4] at H
                have c4b0 : decide (0 ≤ x5_2) = true := decide_eq_true c4
                clear c4
                obtain ⟨ji5, hji5⟩ : ∃ j_ : Int, (IntKind.u64.wrap (wrap64 (8 * x5_2))) = j_ := ⟨_, rfl⟩
                replace H : (if 0 ≤ (ji5) then ((some (([(Go.bits .and .u64 (shr .u64 (IntKind.u64.wrap ((IntKind.u64.wrap (a0)) * 8)) (ji5)) 255) % 256] : List Int) : List Int)).bind fun y280 => (if x3_2.size + (strOfNums y280).size ≤ 9223372036854775807 then (depotref01_Pad.l1 k2 (x3_2 ++ (strOfNums y280)) (IntKind.u64.wrap ((IntKind.u64.wrap (a0)) * 8)) (wrap64 (x5_2 - 1))) else (none))) else (none)) = some r := by first | (rw [hji5] at H; exact H) | (simp only [hji5] at H ⊢; exact H)
                by_cases c6 : 0 ≤ (ji5)
                · rw [if_pos c6] at H
                  have c6b0 := eq_true c6
                  have c6b1 : decide (0 ≤ (ji5)) = true := decide_eq_true c6
                  clear c6
                  obtain ⟨ji7, hji7⟩ : ∃ j_ : Int, (shr .u64 (IntKind.u64.wrap ((IntKind.u64.wrap (a0)) * 8)) (ji5)) = j_ := ⟨_, rfl⟩
                  replace H : ((some (([(Go.bits .and .u64 (ji7) 255) % 256] : List Int) : List Int)).bind fun y280 => (if x3_2.size + (strOfNums y280).size ≤ 9223372036854775807 then (depotref01_Pad.l1 k2 (x3_2 ++ (strOfNums y280)) (IntKind.u64.wrap ((IntKind.u64.wrap (a0)) * 8)) (wrap64 (x5_2 - 1))) else (none))) = some r := by first | (rw [hji7] at H; exact H) | (simp only [hji7] at H ⊢; exact H)
                  have hji7_ : ((IntKind.u64.wrap ((IntKind.u64.wrap (a0)) * 8)) / 2 ^ min (ji5).toNat 64) = ji7 := hji7
                  have hji7z : (ji5) ≤ 64 → ((IntKind.u64.wrap ((IntKind.u64.wrap (a0)) * 8)) / 2 ^ (ji5).toNat) = ji7 := shr_small hji7
                  obtain ⟨y280, hy280⟩ : ∃ y_ : List Int, y_ = (([(Go.bits .and .u64 (ji7) 255) % 256] : List Int)) := ⟨_, rfl⟩
                  replace H : (if x3_2.size + (strOfNums y280).size ≤ 9223372036854775807 then (depotref01_Pad.l1 k2 (x3_2 ++ (strOfNums y280)) (IntKind.u64.wrap ((IntKind.u64.wrap (a0)) * 8)) (wrap64 (x5_2 - 1))) else (none)) = some r := by first | (rw [hy280]; with_reducible exact H) | (have H2_ := (Option.bind_some _ _).symm.trans H; rw [hy280]; with_reducible exact H2_) | (have H2_ := (Option.bind_some _ _).symm.trans H; with_reducible exact H2_) | with_reducible exact H | (rw [hy280]; exact H) | exact H
                  have Ny280 := Aside0.mk hy280
                  clear hy280
                  by_cases c8 : x3_2.size + (strOfNums y280).size ≤ 9223372036854775807
                  · rw [if_pos c8] at H
                    have c8b0 := eq_true c8
                    have c8b1 : decide (x3_2.size + (strOfNums y280).size ≤ 9223372036854775807) = true := decide_eq_true c8
                    try have c8b2 : (9223372036854775807 < x3_2.size + (strOfNums y280).size) = False := eq_false (Nat.not_lt.2 c8)
                    have H' := Aside0.mk H
                    clear H
                    go_wp2_with (first | ((with_reducible refine gate_dst (N := 32) rfl ?_); refine Kd.R_lit (Kd.int .u8) _ 5 ?hg (N := 32) ?hd (xs := ([(Go.bits .and .u64 (ji7) 255) % 256] : List Int)) (inner := [.int .u8 ((Go.bits .and .u64 (ji7) 255) % 256)]) (ok := fun _ => True) (okp := fun _ => True) ?hr ?hp (fun _ hk => hk) trivial (Below.refl _ _) (Nat.le_refl _) (by simp) ?_; (case hd => rfl); (case hg => rfl); (case hr => first | (go_simp; done) | (go_simp; rfl)); (case hp => exact (Reps.one (show Kd.M (Kd.int .u8) _ _ _ ((Go.bits .and .u64 (ji7) 255) % 256) [.int .u8 ((Go.bits .and .u64 (ji7) 255) % 256)] from rfl) (Reps.none _ _))); intro v281 w9 ho10 hb hg_ hnew_; clear hg_ hnew_; (first | rw [← Ny280.out] at ho10 | (simp only [Int.reduceToNat] at ho10; rw [← Ny280.out] at ho10)); have n0_ := Aside0.mk (Kd.R_lower ho10 (below_size (by repeat (first | (with_reducible first | exact HB.out | apply below_alloc | apply pw_below_drewN | apply below_drew1) | exact HB.out)))); have n1_ := Aside0.mk (below_step (by repeat (first | (with_reducible first | exact HB.out | apply below_alloc | apply pw_below_drewN | apply below_drew1) | exact HB.out)) hb); clear HB; have HO282 := n0_; have HB := n1_; clear n0_ n1_; clear hb ho10; have hcv11 := own_string (P := Tryd.prog) Tryd.underlying41 Tryd.underlying5 Tryd.underlying9 (Kd.own_of_R HO282.out)))
                    go_roundg k2
                    case measure => have := HK1.out; have := HK2.out; omega
                    case rel => exact ⟨(x3_2 ++ (strOfNums y280)), (wrap64 (x5_2 - 1)), (by first | rfl | (simp; done) | (simp [*]; done)), (by first | rfl | (simp; done) | (simp [*]; done)), H', ⟨by have := HK1.out; have := HK2.out; omega⟩, ⟨by repeat (first | (with_reducible first | exact HB.out | apply below_alloc | apply pw_below_drewN | apply below_drew1) | exact HB.out)⟩⟩
                  · rw [if_neg c8] at H
                    exact absurd H (by simp)
                · rw [if_neg c6] at H
                  exact absurd H (by simp)
              · rw [if_neg c4] at H
                have c4b0 : decide (0 ≤ x5_2) = false := decide_eq_false c4
                clear c4
                obtain rfl := Option.some.inj H
                go_wp2
                go_ret
                exact ⟨by first | rfl | (simp [errW_none, errW_some] <;> rfl) | (simp [*, errW_none, errW_some] <;> rfl), by repeat (first | (with_reducible first | exact HB.out | apply below_alloc | apply pw_below_drewN | apply below_drew1) | exact HB.out)⟩
        · rw [if_neg c3] at H
          have c3b0 : ((Int.tmod (wrap64 ((Int.tmod a0 64) + (x3_1.size : Int))) 64) == 56) = false := beq_eq_false_iff_ne.mpr c3
          have c3b1 : ((Int.tmod (wrap64 ((Int.tmod a0 64) + (x3_1.size : Int))) 64) != 56) = true := bne_iff_ne.mpr c3
          by_cases c12 : x3_1.size + 1 ≤ 9223372036854775807
          · rw [if_pos c12] at H
            have c12b0 := eq_true c12
            have c12b1 : decide (x3_1.size + 1 ≤ 9223372036854775807) = true := decide_eq_true c12
            try have c12b2 : (9223372036854775807 < x3_1.size + 1) = False := eq_false (Nat.not_lt.2 c12)
            have H' := Aside0.mk H
            clear H
            go_wp2
            go_roundg k1
            case measure => have := HK1.out; omega
            case rel => exact ⟨(x3_1 ++ (⟨#[0]⟩ : ByteArray)), (by first | rfl | (simp; done) | (simp [*]; done)), H', ⟨by have := HK1.out; omega⟩, ⟨by repeat (first | (with_reducible first | exact HB.out | apply below_alloc | apply pw_below_drewN | apply below_drew1) | exact HB.out)⟩⟩
          · rw [if_neg c12] at H
            exact absurd H (by simp)

end Go.Proofs.YtbllmpfdhcbkpaaDoor.Q
/- The document's Pad is pad (plain). -/
namespace Go.Proofs.YtbllmpfdhcbkpaaDoor.Sha
open Go.RowKit Go.Proofs.YtbllmpfdhcbkpaaDoorW.PrintWords Go.Proofs.YtbllmpfdhcbkpaaDoorW.PrintLast Go.Proofs.YtbllmpfdhcbkpaaDoorW.PrintMore Go.Proofs.YtbllmpfdhcbkpaaDoor.Bytes Go.Proofs.YtbllmpfdhcbkpaaDoor.Q Go.Proofs.YtbllmpfdhcbkpaaDoor.Evs
set_option linter.unusedVariables false
set_option linter.unusedSimpArgs false
theorem nums_one (v : Int) : bs (strOfNums [v]) = [UInt8.ofNat v.toNat] := by
  unfold strOfNums bs
  simp
/-- The bytes of a number, the highest first. -/
def be8 (m : Nat) : Nat → List UInt8
  | 0 => []
  | d + 1 => UInt8.ofNat (nib m d).toNat :: be8 m d
theorem rpad_l1 (m : Nat) (hm : m < 18446744073709551616) (d : Nat) : ∀ (s : ByteArray), d ≤ 8 → (bs s).length + d ≤ 1000 → Ev (fun k => depotref01_Pad.l1 k s (m : Int) ((d : Int) - 1)) ⟨(bs s ++ be8 m d).toArray⟩ := by
  induction d with
  | zero =>
    intro s _ _
    refine succ ?_
    simp only [depotref01_Pad.l1]
    refine neg (by omega) (now (congrArg some ?_))
    apply bs_inj
    rw [be8, List.append_nil]
    exact (bs_mk (bs s)).symm
  | succ d ih =>
    intro s hd hl
    refine succ ?_
    simp only [depotref01_Pad.l1]
    have e0 : ((d + 1 : Nat) : Int) - 1 = (d : Int) := by omega
    have e1 : wrap64 (8 * (d : Int)) = ((8 * d : Nat) : Int) := by rw [w64 (by omega) (by omega)]; omega
    have e2 : IntKind.u64.wrap ((8 * d : Nat) : Int) = ((8 * d : Nat) : Int) := by rw [IntKind.wrap_u64]; omega
    have e3 : shr .u64 (m : Int) ((8 * d : Nat) : Int) = ((m / 2 ^ (8 * d) : Nat) : Int) := by
      unfold shr
      rw [Int.toNat_natCast, Nat.min_eq_left (by show 8 * d ≤ 64; omega), Int.natCast_ediv, Int.natCast_pow]
      rfl
    have hq : m / 2 ^ (8 * d) ≤ m := Nat.div_le_self _ _
    have e4 : Go.bits .and .u64 ((m / 2 ^ (8 * d) : Nat) : Int) 255 % 256 = nib m d := by
      rw [show (255 : Int) = ((255 : Nat) : Int) from rfl, u64_and_nat _ _ (by omega) (by omega)]
      unfold nib
      have := Nat.and_two_pow_sub_one_eq_mod (m / 2 ^ (8 * d)) 8
      rw [show (255 : Nat) = 2 ^ 8 - 1 from rfl, this]
      omega
    rw [e0, e1, e2, e3, e4]
    have hz : (strOfNums [nib m d]).size = 1 := by rw [size_bs, nums_one]; rfl
    refine pos (by omega) (pos (by omega) (call rfl (pos (by rw [hz, size_bs]; omega) ?_)))
    have ew : wrap64 ((d : Int) - 1) = (d : Int) - 1 := w64 (by omega) (by omega)
    rw [ew]
    have h := ih (s ++ strOfNums [nib m d]) (by omega) (by rw [bs_append, List.length_append, nums_one, List.length_singleton]; omega)
    rw [bs_append, nums_one, List.append_assoc] at h
    exact h
theorem rpad_l0 (n z : Nat) (hn : n < 1152921504606846976) (hz : z = (119 - n % 64) % 64) (d : Nat) : ∀ j, j + d = z → Ev (fun k => depotref01_Pad.l0 k (n : Int) ⟨(128 :: List.replicate j 0).toArray⟩) ⟨((128 :: List.replicate z 0) ++ be8 (n * 8) 8).toArray⟩ := by
  have ht : ∀ j, j ≤ 64 → Int.tmod (wrap64 (Int.tmod (n : Int) 64 + (((⟨(128 :: List.replicate j 0).toArray⟩ : ByteArray).size : Nat) : Int))) 64 = (((n % 64 + 1 + j) % 64 : Nat) : Int) := by
    intro j hj
    have t1 : Int.tmod (n : Int) 64 = ((n % 64 : Nat) : Int) := rfl
    have hsz : (⟨(128 :: List.replicate j 0).toArray⟩ : ByteArray).size = j + 1 := by rw [size_bs, bs_mk, List.length_cons, List.length_replicate]
    rw [t1, hsz, w64 (by omega) (by omega), show ((n % 64 : Nat) : Int) + ((j + 1 : Nat) : Int) = ((n % 64 + 1 + j : Nat) : Int) from by omega]
    rfl
  induction d with
  | zero =>
    intro j hj
    obtain rfl : j = z := by omega
    refine succ ?_
    simp only [depotref01_Pad.l0]
    rw [ht j (by omega)]
    refine pos (by omega) ?_
    have e1 : IntKind.u64.wrap (n : Int) = (n : Int) := by rw [IntKind.wrap_u64]; omega
    have e2 : IntKind.u64.wrap ((n : Int) * 8) = ((n * 8 : Nat) : Int) := by rw [IntKind.wrap_u64]; omega
    rw [e1, e2]
    have h := rpad_l1 (n * 8) (by omega) 8 ⟨(128 :: List.replicate j 0).toArray⟩ (by omega) (by rw [bs_mk, List.length_cons, List.length_replicate]; omega)
    rw [bs_mk] at h
    exact h
  | succ d ih =>
    intro j hj
    refine succ ?_
    simp only [depotref01_Pad.l0]
    rw [ht j (by omega)]
    refine neg (by omega) (pos (by rw [size_bs, bs_mk, List.length_cons, List.length_replicate]; omega) ?_)
    have e : (⟨(128 :: List.replicate j 0).toArray⟩ : ByteArray) ++ (⟨#[0]⟩ : ByteArray) = ⟨(128 :: List.replicate (j + 1) 0).toArray⟩ := by
      apply bs_inj
      rw [bs_append, bs_mk, bs_mk, List.replicate_succ', List.cons_append]
      rfl
    rw [e]
    exact ih (j + 1) (by omega)
theorem rpad (n : Nat) (hn : n < 1152921504606846976) : Ev (fun k => depotref01_Pad.f k (n : Int)) ⟨(pad n).toArray⟩ := by
  unfold depotref01_Pad.f
  refine neg (by omega) ?_
  have h := rpad_l0 n _ hn rfl ((119 - n % 64) % 64) 0 (by omega)
  have e : (128 :: List.replicate ((119 - n % 64) % 64) 0) ++ be8 (n * 8) 8 = pad n := by
    unfold pad be8 be8 be8 be8 be8 be8 be8 be8 be8
    rw [nib_byte (n * 8) 7 72057594037927936 rfl, nib_byte (n * 8) 6 281474976710656 rfl, nib_byte (n * 8) 5 1099511627776 rfl, nib_byte (n * 8) 4 4294967296 rfl, nib_byte (n * 8) 3 16777216 rfl, nib_byte (n * 8) 2 65536 rfl, nib_byte (n * 8) 1 256 rfl, nib_byte (n * 8) 0 1 rfl, Nat.div_one]
    rfl
  rw [e] at h
  exact h
end Go.Proofs.YtbllmpfdhcbkpaaDoor.Sha
/- The document's SHA-256: Of. -/
namespace Go.Proofs.YtbllmpfdhcbkpaaDoor.Sha
open Go.RowKit Go.Proofs.YtbllmpfdhcbkpaaDoor.Q Go.Proofs.YtbllmpfdhcbkpaaDoorW.PrintWords Go.Proofs.YtbllmpfdhcbkpaaDoorW.PrintLast Go.Proofs.YtbllmpfdhcbkpaaDoorW.PrintMore Go.Proofs.YtbllmpfdhcbkpaaDoor.Bytes
set_option linter.unusedVariables false
set_option linter.unusedSimpArgs false
/-- The block at work: i bytes of a list, then noughts. -/
def part (l : List UInt8) (i : Nat) : List UInt8 := l.take i ++ List.replicate (64 - i) 0
theorem part_len (l : List UInt8) (i : Nat) (hi : i ≤ 64) (hl : i ≤ l.length) : (part l i).length = 64 := by
  rw [part, List.length_append, List.length_take, List.length_replicate]
  omega
theorem part_set (l : List UInt8) (i : Nat) (hi : i < 64) (hl : i < l.length) : (part l i).set i (l[i]) = part l (i + 1) := by
  unfold part
  have ht : (l.take i).length = i := by rw [List.length_take]; omega
  obtain ⟨m, hm⟩ : ∃ m, 64 - i = m + 1 := ⟨63 - i, by omega⟩
  rw [List.set_append_right _ _ (by omega), ht, Nat.sub_self, hm, show 64 - (i + 1) = m from by omega, List.replicate_succ, List.set_cons_zero, List.take_succ_eq_append_getElem hl, List.append_assoc]
  rfl
theorem part_zero (l : List UInt8) : part l 0 = List.replicate 64 0 := by simp [part]
theorem part_all (l : List UInt8) : part l 64 = l.take 64 := by simp [part]
/-- The digest at work. -/
def dpart (l : List UInt8) (i : Nat) : List UInt8 := l.take i ++ List.replicate (32 - i) 0
theorem dpart_len (l : List UInt8) (i : Nat) (hi : i ≤ 32) (hl : i ≤ l.length) : (dpart l i).length = 32 := by
  rw [dpart, List.length_append, List.length_take, List.length_replicate]
  omega
theorem dpart_set (l : List UInt8) (i : Nat) (hi : i < 32) (hl : i < l.length) : (dpart l i).set i (l[i]) = dpart l (i + 1) := by
  unfold dpart
  have ht : (l.take i).length = i := by rw [List.length_take]; omega
  obtain ⟨m, hm⟩ : ∃ m, 32 - i = m + 1 := ⟨31 - i, by omega⟩
  rw [List.set_append_right _ _ (by omega), ht, Nat.sub_self, hm, show 32 - (i + 1) = m from by omega, List.replicate_succ, List.set_cons_zero, List.take_succ_eq_append_getElem hl, List.append_assoc]
  rfl
theorem dpart_next (l : List UInt8) (i : Nat) (hi : i < 32) (z : UInt8) (hz : l[i]? = some z) : (dpart l i).set i z = dpart l (i + 1) := by
  obtain ⟨hl, e⟩ := List.getElem?_eq_some_iff.1 hz
  rw [← e]
  exact dpart_set l i hi hl
theorem digest_at (v : V8) (c : Nat) (hc : c < 8) : (digest v)[4 * c]? = some (UInt8.ofNat ((v.words.getD c 0).toNat >>> 24)) ∧ (digest v)[4 * c + 1]? = some (UInt8.ofNat ((v.words.getD c 0).toNat >>> 16)) ∧ (digest v)[4 * c + 2]? = some (UInt8.ofNat ((v.words.getD c 0).toNat >>> 8)) ∧ (digest v)[4 * c + 3]? = some (UInt8.ofNat (v.words.getD c 0).toNat) := by
  match c, hc with
  | 0, _ => exact ⟨rfl, rfl, rfl, rfl⟩
  | 1, _ => exact ⟨rfl, rfl, rfl, rfl⟩
  | 2, _ => exact ⟨rfl, rfl, rfl, rfl⟩
  | 3, _ => exact ⟨rfl, rfl, rfl, rfl⟩
  | 4, _ => exact ⟨rfl, rfl, rfl, rfl⟩
  | 5, _ => exact ⟨rfl, rfl, rfl, rfl⟩
  | 6, _ => exact ⟨rfl, rfl, rfl, rfl⟩
  | 7, _ => exact ⟨rfl, rfl, rfl, rfl⟩
theorem dpart_zero (l : List UInt8) : dpart l 0 = List.replicate 32 0 := by simp [dpart]
theorem blocks_step (h : V8) (l : List UInt8) (q : Nat) (hq : 64 * q + 64 ≤ l.length) : block (blocks h (l.take (64 * q))) ((l.drop (64 * q)).take 64) = blocks h (l.take (64 * (q + 1))) := by
  rw [show 64 * (q + 1) = 64 * q + 64 from by omega, List.take_add, blocks_end h _ _ (by rw [List.length_take]; omega) (by rw [List.length_take, List.length_drop]; omega)]
attribute [local go_sem] U_shr8 U_shr16 U_shr24 U_byte U_byte' u32_signed u32_max
set_option maxRecDepth 100000 in
set_option maxHeartbeats 4000000 in
theorem rof_calls (t : ByteArray) (w : World) (hn : t.size < 1152921504606846976) : Calls Tryd.prog 19 #[.string t] w fun e w' => e = .returned (.agg ((of t.data.toList).map bcell).toArray) ∧ Below w.heap.size w w' := by
  have HR23 : Aside0 ((Tryd.prog.info? 23).map (·.size) = some 32) := ⟨by kernel_rfl⟩
  obtain ⟨O, hO⟩ : ∃ O, of t.data.toList = O := ⟨_, rfl⟩
  obtain ⟨k, hk⟩ := rpad t.size (by omega)
  have CP := Aside0.mk (fun W => depotref01_Pad.calls k (t.size : Int) _ W (hk k (Nat.le_refl _)))
  obtain ⟨pd, hpd⟩ : ∃ pd : ByteArray, (⟨(pad t.size).toArray⟩ : ByteArray) = pd := ⟨_, rfl⟩
  have hps : pd.size = (pad t.size).length := by rw [← hpd, size_bs, bs_mk]
  have hpl := pad_len t.size
  have hpw := pad_whole t.size
  rw [hpd] at CP
  have s1 : (t.size + pd.size ≤ 9223372036854775807) = True := eq_true (by omega)
  have s2 : ((t.size : Int) + (pd.size : Int) ≤ 9223372036854775807) = True := eq_true (by omega)
  have s3 : (9223372036854775807 < t.size + pd.size) = False := eq_false (by omega)
  obtain ⟨L, hL⟩ : ∃ L, bs (t ++ pd) = L := ⟨_, rfl⟩
  have hLl : L.length = t.size + pd.size := by rw [← hL, bs_append, List.length_append, ← size_bs, ← size_bs]
  have HO : Aside0 (digest (blocks H0 L) = O) := ⟨by
    rw [← hO, ← hL, bs_append, ← hpd, bs_mk]
    unfold of
    rw [show t.data.toList.length = t.size from (Lib.size_eq t).symm]
    rfl⟩
  obtain ⟨Q, hQ⟩ : ∃ Q, L.length = 64 * Q := ⟨L.length / 64, by omega⟩
  have hQB : 64 * Q < 1200000000000000000 := by omega
  have HOL := Aside0.mk (show O.length = 32 from by rw [← hO]; exact of_len _)
  rw [hO]
  have HB1 := Aside0.mk ((Below.refl w.heap.size w).alloc (Nat.le_refl _) (.cells (List.replicate 32 (Value.int .u8 0)).toArray 23))
  have HX1 := Aside0.mk (World.alloc_heap_new w (.cells (List.replicate 32 (Value.int .u8 0)).toArray 23))
  have HL := Aside0.mk hL
  clear hO hk hpd hL hps hpl hpw
  go_enter Tryd.func19, Tryd.ntmps19
  go_wp2_with (first
    | (go_at_call 40; ((with_reducible refine (CP.out _).mono ?_)); rintro e w2 ⟨rfl, hb2⟩; have HB2 := Aside0.mk (HB1.out.trans (hb2.mono HB1.out.size)); have HX2 := Aside0.mk ((hb2.block _ (Array.getElem?_eq_some_iff.1 HX1.out).1).trans HX1.out); clear hb2)
    | (go_at_call 41; ((with_reducible refine (start_calls w2).mono ?_)); rintro e w3 ⟨rfl, hb3⟩; have HB3 := Aside0.mk (HB2.out.trans (hb3.mono HB2.out.size)); have HX3 := Aside0.mk ((hb3.block _ (Array.getElem?_eq_some_iff.1 HX2.out).1).trans HX2.out); clear hb3)
    | ((with_reducible refine gate_store (t := 84) (p := 4) rfl ?_); refine wpList_store_row' rfl 84 (.tmp 4) (.tmp 15) rfl w3.heap.size 84 (V8.cells ⟨0, 0, 0, 0, 0, 0, 0, 0⟩) H0.cells rfl rfl (World.alloc_heap_new w3 _) (by kernel_rfl) (by kernel_rfl) (by kernel_rfl) ?_; intro w4 hw4; have HB4 : Aside0 (Below w3.heap.size w3 w4 ∧ w4.heap[w3.heap.size]? = some (.cells H0.cells 84 (0, 0))) := ⟨by rw [hw4]; exact ⟨below_setRow ((Below.refl _ _).alloc (Nat.le_refl _) _) (Nat.le_refl _) _, setRow_heap _ _ _ _ _ _ (World.alloc_heap_new w3 _)⟩⟩; clear hw4))
  have HP4 : Aside0 (w.heap.size < w3.heap.size) := ⟨(Array.getElem?_eq_some_iff.1 HX3.out).1⟩
  have HX4 : Aside0 (w4.heap[w.heap.size]? = some (.cells (List.replicate 32 (Value.int .u8 0)).toArray 23 (0, 0))) := ⟨(HB4.out.1.block _ HP4.out).trans HX3.out⟩
  have HV4 := Aside0.mk (show w4.heap[w3.heap.size]? = some (.cells (blocks H0 (L.take (64 * 0))).cells 84 (0, 0)) from by rw [Nat.mul_zero, List.take_zero, blocks_few H0 [] (by decide)]; exact HB4.out.2)
  have HBB4 := Aside0.mk (HB3.out.trans (HB4.out.1.mono HB3.out.size))
  clear HB1 HB2 HB3 HB4 HX1 HX2 HX3
  generalize w3.heap.size = p4 at HP4 HV4 ⊢
  obtain ⟨m, hm⟩ : ∃ m, t ++ pd = m := ⟨_, rfl⟩
  rw [hm]
  have HLM : Aside0 (bs m = L) := ⟨by rw [← hm]; exact HL.out⟩
  have hmz : m.size = 64 * Q := by rw [size_bs, HLM.out]; exact hQ
  clear hm s1 s2 s3 HL hLl
  go_loopg [5] Q (fun g v5 wx => ∃ q : Nat, q + g = Q ∧ v5 = .int .i64 ((64 * q : Nat) : Int) ∧ Aside0 (wx.heap[p4]? = some (.cells (blocks H0 (L.take (64 * q))).cells 84 (0, 0))) ∧ Aside0 (Below w.heap.size w wx) ∧ Aside0 (wx.heap[w.heap.size]? = some (.cells (List.replicate 32 (Value.int .u8 0)).toArray 23 (0, 0))))
  case atStart => exact ⟨0, by omega, rfl, HV4, HBB4, HX4⟩
  case round =>
    clear HV4 HBB4 HX4
    obtain ⟨q, hqg, rfl, HV, HBW, HX⟩ := hrel
    cases gk with
    | zero =>
      obtain rfl : q = Q := by omega
      rw [List.take_of_length_le (by omega)] at HV
      have d1 : decide (((64 * q : Nat) : Int) < (m.size : Int)) = false := decide_eq_false (by omega)
      obtain ⟨v, hv⟩ : ∃ v, blocks H0 L = v := ⟨_, rfl⟩
      rw [hv] at HV HO
      clear hv
      have HA1 := Aside0.mk (World.alloc_heap_new wr (.cells ((dpart O 0).map bcell).toArray 23))
      have HA2 := Aside0.mk (HBW.out.alloc HBW.out.size (.cells ((dpart O 0).map bcell).toArray 23))
      have HP6 : Aside0 (p4 < wr.heap.size) := ⟨(Array.getElem?_eq_some_iff.1 HV.out).1⟩
      have HA3 := Aside0.mk ((((Below.refl _ wr).alloc (Nat.le_refl _) (.cells ((dpart O 0).map bcell).toArray 23)).block p4 HP6.out).trans HV.out)
      have HA4 := Aside0.mk ((((Below.refl _ wr).alloc (Nat.le_refl _) (.cells ((dpart O 0).map bcell).toArray 23)).block w.heap.size (Nat.lt_trans HP4.out HP6.out)).trans HX.out)
      have e0 : (List.replicate 32 (Value.int .u8 0)).toArray = ((dpart O 0).map bcell).toArray := by rw [dpart_zero]; rfl
      clear HV HBW HX
      go_upto_block 4 with fail
      change Code.wp _ _ _ _ (wr.alloc (.cells (List.replicate 32 (Value.int .u8 0)).toArray 23))
      rw [e0]
      clear e0
      generalize wr.alloc (.cells ((dpart O 0).map bcell).toArray 23) = w5 at HA1 HA2 HA3 HA4 ⊢
      generalize wr.heap.size = p6 at HA1 HP6 ⊢
      go_wp2
      go_loopg [9] 32 (fun g v9 wx => ∃ i : Nat, i + g = 32 ∧ v9 = .int .i64 (i : Int) ∧ Aside0 (wx.heap[p6]? = some (.cells ((dpart O i).map bcell).toArray 23 (0, 0))) ∧ Aside0 (wx.heap[p4]? = some (.cells v.cells 84 (0, 0))) ∧ Aside0 (Below w.heap.size w wx) ∧ Aside0 (wx.heap[w.heap.size]? = some (.cells (List.replicate 32 (Value.int .u8 0)).toArray 23 (0, 0))))
      case atStart => exact ⟨0, by omega, rfl, HA1, HA3, HA2, HA4⟩
      case round =>
        clear HA1 HA2 HA3 HA4
        obtain ⟨i, hig, rfl, HP, HV, HBW, HX⟩ := hrel
        cases gk with
        | zero =>
          obtain rfl : i = 32 := by omega
          have d2 : decide ((32 : Int) < 32) = false := by decide
          have eO : dpart O 32 = O := by rw [dpart, Nat.sub_self, List.take_of_length_le (by rw [HOL.out]; omega)]; simp
          rw [eO] at HP
          go_wp2_with (first
            | ((with_reducible refine gate_dst (N := 53) rfl ?_); refine wpList_load_mid rfl 23 (.tmp 8) rfl p6 0 rfl (O.map bcell) _ (range_row HP.out) Tryd.underlying23 rfl (by rw [List.length_map, HOL.out]; exact HR23.out) ?_)
            | ((with_reducible refine gate_store (t := 23) (p := 2) rfl ?_); refine wpList_store_row' rfl 23 (.tmp 2) (.tmp 53) rfl w.heap.size 23 _ (O.map bcell).toArray rfl rfl HX.out (by rw [List.size_toArray, List.length_map, HOL.out]; exact HR23.out) (by rw [List.size_toArray, List.size_toArray, List.length_map, HOL.out]; rfl) (all_oneCell_toArray fun u hu => by obtain ⟨y, _, rfl⟩ := List.mem_map.1 hu; rfl) ?_; intro w9 hw9; have HX9 : Aside0 (w9.heap[w.heap.size]? = some (.cells (O.map bcell).toArray 23 (0, 0))) := ⟨by rw [hw9]; exact setRow_heap _ _ _ _ _ _ HX.out⟩; have HB9 : Aside0 (Below w.heap.size w w9) := ⟨by rw [hw9]; exact below_setRow HBW.out (Nat.le_refl _) _⟩; clear hw9))
          exact bodyPost_ret (v := .agg (O.map bcell).toArray) (results_cell_row rfl _ _ w.heap.size 23 (O.map bcell).toArray (0, 0) _ rfl HX9.out Tryd.underlying23 rfl (by rw [List.size_toArray, List.length_map, HOL.out]; exact HR23.out)) rfl ⟨rfl, HB9.out⟩
        | succ k2 =>
          have hi : i < 32 := by omega
          have d2 : decide ((i : Int) < 32) = true := decide_eq_true (by omega)
          have p9 : (0 ≤ (i : Int)) = True := eq_true (by omega)
          have q9 : ((i : Int) < 32) = True := eq_true (by omega)
          obtain ⟨c, hc⟩ : ∃ c, i / 4 = c := ⟨_, rfl⟩
          have hc8 : c < 8 := by omega
          have g1 := word_at (i := c) (l := v.words) (show wr.heap[p4]? = some (.cells (warr v.words) 84 (0, 0)) from HV.out) hc8
          obtain ⟨x, hx⟩ : ∃ x, v.words.getD c 0 = x := ⟨_, rfl⟩
          rw [hx] at g1
          have y0 : wr.cell? ⟨p6, i, none⟩ = some (.int .u8 (B ((dpart O i).getD i 0))) := by
            have hl := dpart_len O i (by omega) (by rw [HOL.out]; omega)
            simp [World.cell?, HP.out, List.getElem?_map, List.getElem?_eq_getElem (show i < (dpart O i).length by omega), List.getD_eq_getElem?_getD, bcell]
          have fz : wr.frozen? ⟨p6, i, none⟩ = false := by simp [World.frozen?, HP.out]
          have HIO : Aside0 (O.length = 32 ∧ digest v = O) := ⟨HOL.out, HO.out⟩
          have pc : (0 ≤ (c : Int)) = True := eq_true (by omega)
          have qc : ((c : Int) < 8) = True := eq_true (by omega)
          have et1 : Int.tdiv (i : Int) 4 = (c : Int) := by rw [← hc]; rfl
          have hr : i % 4 = 0 ∨ i % 4 = 1 ∨ i % 4 = 2 ∨ i % 4 = 3 := by omega
          have HC := Aside0.mk hc
          have HXX := Aside0.mk hx
          clear hc hx
          rcases hr with hr | hr | hr | hr
          · have et2 : Int.tmod (i : Int) 4 = 0 := by show ((i % 4 : Nat) : Int) = 0; omega
            go_wp2
            go_roundg k2
            case measure => omega
            case rel =>
              have n1 : p4 ≠ p6 := by have := HP6.out; omega
              have n2 : w.heap.size ≠ p6 := by have := HP6.out; have := HP4.out; omega
              refine ⟨i + 1, by omega, by go_num, ⟨?_⟩, ⟨(Below.heap_setCell _ _ _ _ n1).trans HV.out⟩, ⟨below_set HBW.out _ _ (by have := HP6.out; have := HP4.out; show w.heap.size ≤ p6; omega)⟩, ⟨(Below.heap_setCell _ _ _ _ n2).trans HX.out⟩⟩
              rw [← dpart_next O i hi _ (by rw [← HIO.out.2, show i = 4 * c from by have := HC.out; omega]; exact (digest_at v c hc8).1)]
              rw [HXX.out]
              exact bset HP.out i _
          · have et2 : Int.tmod (i : Int) 4 = 1 := by show ((i % 4 : Nat) : Int) = 1; omega
            go_wp2
            go_roundg k2
            case measure => omega
            case rel =>
              have n1 : p4 ≠ p6 := by have := HP6.out; omega
              have n2 : w.heap.size ≠ p6 := by have := HP6.out; have := HP4.out; omega
              refine ⟨i + 1, by omega, by go_num, ⟨?_⟩, ⟨(Below.heap_setCell _ _ _ _ n1).trans HV.out⟩, ⟨below_set HBW.out _ _ (by have := HP6.out; have := HP4.out; show w.heap.size ≤ p6; omega)⟩, ⟨(Below.heap_setCell _ _ _ _ n2).trans HX.out⟩⟩
              rw [← dpart_next O i hi _ (by rw [← HIO.out.2, show i = 4 * c + 1 from by have := HC.out; omega]; exact (digest_at v c hc8).2.1)]
              rw [HXX.out]
              exact bset HP.out i _
          · have et2 : Int.tmod (i : Int) 4 = 2 := by show ((i % 4 : Nat) : Int) = 2; omega
            go_wp2
            go_roundg k2
            case measure => omega
            case rel =>
              have n1 : p4 ≠ p6 := by have := HP6.out; omega
              have n2 : w.heap.size ≠ p6 := by have := HP6.out; have := HP4.out; omega
              refine ⟨i + 1, by omega, by go_num, ⟨?_⟩, ⟨(Below.heap_setCell _ _ _ _ n1).trans HV.out⟩, ⟨below_set HBW.out _ _ (by have := HP6.out; have := HP4.out; show w.heap.size ≤ p6; omega)⟩, ⟨(Below.heap_setCell _ _ _ _ n2).trans HX.out⟩⟩
              rw [← dpart_next O i hi _ (by rw [← HIO.out.2, show i = 4 * c + 2 from by have := HC.out; omega]; exact (digest_at v c hc8).2.2.1)]
              rw [HXX.out]
              exact bset HP.out i _
          · have et2 : Int.tmod (i : Int) 4 = 3 := by show ((i % 4 : Nat) : Int) = 3; omega
            go_wp2
            go_roundg k2
            case measure => omega
            case rel =>
              have n1 : p4 ≠ p6 := by have := HP6.out; omega
              have n2 : w.heap.size ≠ p6 := by have := HP6.out; have := HP4.out; omega
              refine ⟨i + 1, by omega, by go_num, ⟨?_⟩, ⟨(Below.heap_setCell _ _ _ _ n1).trans HV.out⟩, ⟨below_set HBW.out _ _ (by have := HP6.out; have := HP4.out; show w.heap.size ≤ p6; omega)⟩, ⟨(Below.heap_setCell _ _ _ _ n2).trans HX.out⟩⟩
              rw [← dpart_next O i hi _ (by rw [← HIO.out.2, show i = 4 * c + 3 from by have := HC.out; omega]; exact (digest_at v c hc8).2.2.2)]
              rw [HXX.out]
              exact bset HP.out i _
    | succ k1 =>
      have d1 : decide (((64 * q : Nat) : Int) < (m.size : Int)) = true := decide_eq_true (by omega)
      obtain ⟨D, hD⟩ : ∃ D, L.drop (64 * q) = D := ⟨_, rfl⟩
      have hDl : 64 ≤ D.length := by rw [← hD, List.length_drop]; omega
      obtain ⟨h, hh⟩ : ∃ h, blocks H0 (L.take (64 * q)) = h := ⟨_, rfl⟩
      have HN := Aside0.mk (show block h (part D 64) = blocks H0 (L.take (64 * (q + 1))) from by rw [part_all, ← hh, ← hD]; exact blocks_step H0 L q (by omega))
      rw [hh] at HV
      have HA1 := Aside0.mk (World.alloc_heap_new wr (.cells ((part D 0).map bcell).toArray 85))
      have HA2 := Aside0.mk (HBW.out.alloc HBW.out.size (.cells ((part D 0).map bcell).toArray 85))
      have HP6 : Aside0 (p4 < wr.heap.size) := ⟨(Array.getElem?_eq_some_iff.1 HV.out).1⟩
      have HA3 := Aside0.mk ((((Below.refl _ wr).alloc (Nat.le_refl _) (.cells ((part D 0).map bcell).toArray 85)).block p4 HP6.out).trans HV.out)
      have HA4 := Aside0.mk ((((Below.refl _ wr).alloc (Nat.le_refl _) (.cells ((part D 0).map bcell).toArray 85)).block w.heap.size (Nat.lt_trans HP4.out HP6.out)).trans HX.out)
      have e0 : (List.replicate 64 (Value.int .u8 0)).toArray = ((part D 0).map bcell).toArray := by rw [part_zero]; rfl
      have HEL := Aside0.mk (show ∀ j, j < 64 → L[64 * q + j]? = D[j]? from fun j hj => by rw [← hD, List.getElem?_drop])
      clear hD hh HV HBW HX
      go_upto_block 2 with fail
      change Code.wp _ _ _ _ (wr.alloc (.cells (List.replicate 64 (Value.int .u8 0)).toArray 85))
      rw [e0]
      clear e0
      generalize wr.alloc (.cells ((part D 0).map bcell).toArray 85) = w5 at HA1 HA2 HA3 HA4 ⊢
      generalize wr.heap.size = p6 at HA1 HP6 ⊢
      go_wp2
      go_loopg [7] 64 (fun g v7 wx => ∃ j : Nat, j + g = 64 ∧ v7 = .int .i64 (j : Int) ∧ Aside0 (wx.heap[p6]? = some (.cells ((part D j).map bcell).toArray 85 (0, 0))) ∧ Aside0 (wx.heap[p4]? = some (.cells h.cells 84 (0, 0))) ∧ Aside0 (Below w.heap.size w wx) ∧ Aside0 (wx.heap[w.heap.size]? = some (.cells (List.replicate 32 (Value.int .u8 0)).toArray 23 (0, 0))))
      case atStart => exact ⟨0, by omega, rfl, HA1, HA3, HA2, HA4⟩
      case round =>
        clear HA1 HA2 HA3 HA4
        obtain ⟨j, hjg, rfl, HP, HV, HBW, HX⟩ := hrel
        cases gk with
        | zero =>
          obtain rfl : j = 64 := by omega
          have HPL := Aside0.mk (part_len D 64 (Nat.le_refl _) hDl)
          obtain ⟨pb, hpb⟩ : ∃ pb, part D 64 = pb := ⟨_, rfl⟩
          rw [hpb] at HP HN HPL
          clear hpb
          have d2 : decide ((64 : Int) < 64) = false := by decide
          obtain ⟨y, hy⟩ : ∃ y, block h pb = y := ⟨_, rfl⟩
          have CB := Aside0.mk (rblock_calls h pb HPL.out wr)
          rw [hy] at CB HN
          clear hy
          go_wp2_with (first
            | ((with_reducible refine gate_dst (N := 33) rfl ?_); refine wpList_load_mid rfl 84 (.tmp 4) rfl p4 0 rfl (h.words.map wcell) _ (range_row HV.out) Tryd.underlying84 rfl (by kernel_rfl) ?_)
            | ((with_reducible refine gate_dst (N := 34) rfl ?_); refine wpList_load_mid rfl 85 (.tmp 6) rfl p6 0 rfl (pb.map bcell) _ (range_row HP.out) Tryd.underlying85 rfl (by rw [List.length_map, HPL.out]; kernel_rfl) ?_)
            | (go_at_call 42; refine Calls.mono (show Calls Tryd.prog 42 #[.agg (h.words.map wcell).toArray, .agg (pb.map bcell).toArray] wr _ from CB.out) ?_; rintro e w6 ⟨rfl, hb6⟩; have HB6 := Aside0.mk (HBW.out.trans (hb6.mono HBW.out.size)); have HX6 := Aside0.mk ((hb6.block _ (Array.getElem?_eq_some_iff.1 HX.out).1).trans HX.out); have HV6 := Aside0.mk ((hb6.block _ (Array.getElem?_eq_some_iff.1 HV.out).1).trans HV.out); clear hb6)
            | ((with_reducible refine gate_store (t := 84) (p := 4) rfl ?_); refine wpList_store_row' rfl 84 (.tmp 4) (.tmp 35) rfl p4 84 h.cells y.cells rfl rfl HV6.out (by kernel_rfl) (by kernel_rfl) (by kernel_rfl) ?_; intro w7 hw7; have HV7 : Aside0 (w7.heap[p4]? = some (.cells y.cells 84 (0, 0))) := ⟨by rw [hw7]; exact setRow_heap _ _ _ _ _ _ HV6.out⟩; have HB7 : Aside0 (Below w.heap.size w w7) := ⟨by rw [hw7]; exact below_setRow HB6.out (Nat.le_of_lt HP4.out) _⟩; have HX7 : Aside0 (w7.heap[w.heap.size]? = some (.cells (List.replicate 32 (Value.int .u8 0)).toArray 23 (0, 0))) := ⟨by rw [hw7]; exact (setRow_other _ _ _ _ (Nat.ne_of_lt HP4.out)).trans HX6.out⟩; clear hw7))
          go_roundg k1
          case measure => omega
          case rel =>
            refine ⟨q + 1, by omega, by first | rfl | go_num | (congr 1; omega), ⟨?_⟩, HB7, HX7⟩
            rw [← HN.out]
            exact HV7.out
        | succ k2 =>
          have hj : j < 64 := by omega
          have d2 : decide ((j : Int) < 64) = true := decide_eq_true (by omega)
          have p9 : (0 ≤ (j : Int)) = True := eq_true (by omega)
          have q9 : ((j : Int) < 64) = True := eq_true (by omega)
          have ew : wrap64 (64 * (q : Int) + (j : Int)) = 64 * (q : Int) + (j : Int) := w64 (by omega) (by omega)
          have et : (64 * (q : Int) + (j : Int)).toNat = 64 * q + j := by omega
          have p8 : (0 ≤ 64 * (q : Int) + (j : Int)) = True := eq_true (by omega)
          have q8 : (64 * (q : Int) + (j : Int) < 64 * (Q : Int)) = True := eq_true (by omega)
          have q7 : (64 * q + j < 64 * Q) = True := eq_true (by omega)
          obtain ⟨x, hx⟩ : ∃ x, D[j]? = some x := ⟨_, List.getElem?_eq_getElem (by omega)⟩
          have HMX := Aside0.mk (show ∀ hb : 64 * q + j < m.size, m[64 * q + j]'hb = x from fun hb => by
            have h1 := HEL.out j hj
            rw [hx, ← HLM.out] at h1
            have h2 : (bs m)[64 * q + j]? = some (m[64 * q + j]'hb) := by
              unfold bs
              rw [Array.getElem?_toList, Array.getElem?_eq_getElem hb]
              rfl
            rw [h1] at h2
            injection h2 with h2
            exact h2.symm)
          have HNP := Aside0.mk (show (part D j).set j x = part D (j + 1) from by
            have hjl : j < D.length := by omega
            rw [List.getElem?_eq_getElem hjl] at hx
            injection hx with hx
            rw [← hx]
            exact part_set D j hj hjl)
          have y0 : wr.cell? ⟨p6, j, none⟩ = some (.int .u8 (B ((part D j).getD j 0))) := by
            have hl := part_len D j (by omega) (by omega)
            simp [World.cell?, HP.out, List.getElem?_map, List.getElem?_eq_getElem (show j < (part D j).length by omega), List.getD_eq_getElem?_getD, bcell]
          have fz : wr.frozen? ⟨p6, j, none⟩ = false := by simp [World.frozen?, HP.out]
          clear hx
          go_wp2
          go_roundg k2
          case measure => omega
          case rel =>
            have n1 : p4 ≠ p6 := by have := HP6.out; omega
            have n2 : w.heap.size ≠ p6 := by have := HP6.out; have := HP4.out; omega
            refine ⟨j + 1, by omega, by go_num, ⟨?_⟩, ⟨(Below.heap_setCell _ _ _ _ n1).trans HV.out⟩, ⟨below_set HBW.out _ _ (by have := HP6.out; have := HP4.out; show w.heap.size ≤ p6; omega)⟩, ⟨(Below.heap_setCell _ _ _ _ n2).trans HX.out⟩⟩
            rw [← HNP.out, ← HMX.out (by omega)]
            exact bset HP.out j _
end Go.Proofs.YtbllmpfdhcbkpaaDoor.Sha
/- An array of 32 bytes stored into its cell; results of which one is such a cell. -/
namespace Go.Proofs.YtbllmpfdhcbkpaaDoor.Sha
open Go.RowKit Go.Proofs.YtbllmpfdhcbkpaaDoorW.PrintWords Go.Proofs.YtbllmpfdhcbkpaaDoorW.PrintLast Go.Proofs.YtbllmpfdhcbkpaaDoorW.PrintMore Go.Proofs.YtbllmpfdhcbkpaaDoor.Bytes
set_option linter.unusedVariables false
set_option linter.unusedSimpArgs false
def zero32 : List UInt8 := List.replicate 32 0
theorem store32 {P : Program} {W : World} {a : Act} {ops : Array Oper} {rest : List Oper} {o : Oper} {Q : Exit → Act → World → Prop} (hgd : o.guard = none) (t : TypeId) (p x : Operand) (ho : o.op = .store t p x) (g : Nat) (t' : TypeId) (D0 D : List UInt8)
    (hp : a.eval p = .pointer (some ⟨g, 0, none⟩)) (hx : a.eval x = .agg (D.map bcell).toArray) (hb : W.heap[g]? = some (.cells (D0.map bcell).toArray t' (0, 0))) (hi : (P.info? t).map (·.size) = some 32) (h0 : D0.length = 32) (hD : D.length = 32)
    (h : ∀ W', W'.heap[g]? = some (.cells (D.map bcell).toArray t' (0, 0)) → W'.heap.size = W.heap.size → (∀ k, k ≠ g → W'.heap[k]? = W.heap[k]?) → (∀ B w0, B ≤ g → Below B w0 W → Below B w0 W') → wpList P ops Q rest (a.put o.dst undef) W') : wpList P ops Q (o :: rest) a W := by
  refine wpList_store_row' hgd t p x ho g t' (D0.map bcell).toArray (D.map bcell).toArray hp hx hb (by rw [List.size_toArray, List.length_map, hD]; exact hi) (by rw [List.size_toArray, List.size_toArray, List.length_map, List.length_map, h0, hD]) (all_oneCell_toArray fun u hu => by obtain ⟨y, _, rfl⟩ := List.mem_map.1 hu; rfl) ?_
  rintro W' rfl
  exact h _ (setRow_heap _ _ _ _ _ _ hb) (by simp) (fun k hk => setRow_other W g k _ hk) (fun B w0 hB hb => below_setRow hb hB _)
theorem results_row_tmp_tmp {P : Program} {fn : Func} {p u v : Tmp} {ty : TypeId} (h : fn.results = #[.cell p ty, .tmp u, .tmp v]) (tmps : Array Value) (w : World) (g : Nat) (t : TypeId) (cs : Array Value) (fr : Nat × Nat) (d : TypeDesc)
    (hp : tmps.getD p undef = .pointer (some ⟨g, 0, none⟩)) (hg : w.heap[g]? = some (.cells cs t fr)) (hu : P.underlying ty = some d) (hd : (match d with | .struct _ | .array _ _ => true | _ => false) = true) (hi : (P.info? ty).map (·.size) = some cs.size) :
    (results fn tmps).run P w = .ok (.tuple #[.agg cs, tmps.getD u undef, tmps.getD v undef]) w := by
  have hp' : tmps[p]?.getD undef = .pointer (some ⟨g, 0, none⟩) := by simpa using hp
  simp [results, h, hp', asAddr, run_loadVar_row w g t ty cs fr d hg hu hd hi]
end Go.Proofs.YtbllmpfdhcbkpaaDoor.Sha
/- scan.Modulo and the reference's. -/
namespace Go.Proofs.YtbllmpfdhcbkpaaDoor.Scan
open Go.Shelf Go.RowKit Go.Proofs.YtbllmpfdhcbkpaaDoor.Sha Go.Proofs.YtbllmpfdhcbkpaaDoor.Q Go.Proofs.YtbllmpfdhcbkpaaDoor.SpathPure Go.Proofs.YtbllmpfdhcbkpaaDoor.Rise Go.Proofs.YtbllmpfdhcbkpaaDoorW.PrintWords Go.Proofs.YtbllmpfdhcbkpaaDoorW.PrintLast Go.Proofs.YtbllmpfdhcbkpaaDoorW.PrintMore Go.Proofs.YtbllmpfdhcbkpaaDoor.Bytes
set_option linter.unusedVariables false
set_option linter.unusedSimpArgs false
def sZero : ByteArray := ⟨#[48, 48, 48, 48, 48, 48, 48, 48, 48, 48, 48, 48, 48, 48, 48, 48, 48, 48, 48, 48, 48, 48, 48, 48, 48, 48, 48, 48, 48, 48, 48, 48]⟩
theorem zero_ok : hashNo (bs sZero) = 0 := by decide +kernel
theorem zero_rep : (⟨(Lib.repeatL (⟨#[48]⟩ : ByteArray).data.toList 32).toArray⟩ : ByteArray) = sZero := by rfl
theorem wanted_zero (s : ByteArray) : wanted2 s sZero = hashNo (bs s) := by
  unfold wanted2
  split
  · rfl
  · rename_i h
    rw [zero_ok]
    exact (Decidable.not_not.1 h).symm
/-- What stands behind the text. -/
def marks (l : List Nat) : List UInt8 := l.flatMap fun p : Nat => 124 :: Lib.itoa (p : Int)
def mText (text self : List UInt8) : List UInt8 := R self (bs sZero) text ++ marks (Pl self text 0)
theorem marks_len : ∀ (l : List Nat), (∀ p ∈ l, (p : Int) ≤ 9223372036854775807) → (marks l).length ≤ 22 * l.length
  | [], _ => by simp [marks]
  | p :: l, h => by
    have h1 := marks_len l (fun q hq => h q (List.mem_cons_of_mem _ hq))
    have h2 := Lib.itoa_length_le (p : Int) (by omega) (h p List.mem_cons_self)
    unfold marks at h1 ⊢
    rw [List.flatMap_cons, List.length_append, List.length_cons, List.length_cons]
    omega
theorem marks_step (l : List Nat) (i : Nat) (p : Nat) (h : l[i]? = some p) : marks (l.take (i + 1)) = marks (l.take i) ++ (124 :: Lib.itoa (p : Int)) := by
  rw [List.take_add_one, h]
  simp [marks]
theorem Pl_lt {f : List UInt8} (hf : f.length = 32) : ∀ (n : Nat) (s : List UInt8) (d : Nat), s.length ≤ n → ∀ p ∈ Pl f s d, p ≤ d + s.length
  | 0, s, d, h, p, hp => by
    obtain rfl := List.eq_nil_of_length_eq_zero (Nat.le_zero.1 h)
    rw [Pl_nil] at hp
    cases hp
  | n + 1, [], d, _, p, hp => by rw [Pl_nil] at hp; cases hp
  | n + 1, c :: s, d, h, p, hp => by
    rw [List.length_cons] at h ⊢
    by_cases e : (c :: s).take 32 = f
    · have hl := congrArg List.length e
      rw [hf, List.length_take, List.length_cons] at hl
      rw [Pl_hit hf e] at hp
      rcases List.mem_cons.1 hp with rfl | hp
      · omega
      · have := Pl_lt hf n ((c :: s).drop 32) (d + 32) (by rw [List.length_drop, List.length_cons]; omega) p hp
        rw [List.length_drop, List.length_cons] at this
        omega
    · rw [Pl_miss e] at hp
      have := Pl_lt hf n s (d + 1) (by omega) p hp
      omega
theorem zs_get (l : List Nat) (i : Nat) (p : Nat) (h : l[i]? = some p) : (zs l)[i]? = some (p : Int) := by
  unfold zs
  rw [List.getElem?_map, h]
  rfl
/-- What stands in Modulo's memory as it writes the marks. -/
structure Md (w : World) (b : Nat) (ty : TypeId) (v : Value) (L : List Int) (W : World) (s : Sd) (S : List UInt8) : Prop where
  rb : W.heap[w.heap.size]? = some (.cells (zero32.map bcell).toArray ty (0, 0))
  at_ : s.At W b
  ho : s.Holds S
  gl : Gl W
  li : Kd.R (Kd.int .i64) 3 W w.heap.size (fun k => w.heap.size < k ∧ k < b) v L
  bel : Below w.heap.size w W
  ne : w.heap.size < b
theorem Md.less {w W W2 : World} {b : Nat} {ty : TypeId} {v : Value} {L : List Int} {s : Sd} {S : List UInt8} (h : Md w b ty v L W s S) (k : Below W.heap.size W W2) : Md w b ty v L W2 s S := by
  have h1 := (Array.getElem?_eq_some_iff.1 h.rb).1
  exact ⟨(k.block _ h1).trans h.rb, h.at_.keep k, h.ho, h.gl.less k, Kd.R_below h.li k, h.bel.trans (k.mono (Nat.le_of_lt h1)), h.ne⟩
theorem Md.turn {w W W2 : World} {b : Nat} {ty : TypeId} {v : Value} {L : List Int} {s s2 : Sd} {S S2 : List UInt8} (h : Md w b ty v L W s S) (k : Turn W W2 b s2) (k2 : s2.Holds S2) (hw : 4 ≤ w.heap.size) : Md w b ty v L W2 s2 S2 := by
  have h1 := (Array.getElem?_eq_some_iff.1 h.rb).1
  have h2 := h.ne
  have kf : Fr (· = b) W W2 := ⟨k.2.os, k.2.tape, k.2.output, k.2.size, fun i hi hn => k.2.block i hi (by intro e; injection e with e; exact hn e)⟩
  have hb : Below w.heap.size w W2 := below_fr h.bel kf (fun g hg => by rw [hg]; exact Nat.le_of_lt h2) h.bel.size
  exact ⟨(kf.block _ h1 (by omega)).trans h.rb, k.1, k2, h.gl.below (below_fr (Below.refl w.heap.size W) kf (fun g hg => by rw [hg]; exact Nat.le_of_lt h2) (Nat.le_of_lt h1)) hw, Kd.R_grown h.li k.2 (fun q hq e => by injection e with e; have := hq.2; omega), hb, h2⟩
theorem rep_calls (W : World) : Calls Tryd.prog 13 #[.string ⟨#[48]⟩, .int .i64 32] W fun e w' => e = .returned (.string sZero) ∧ Below W.heap.size W w' := by
  have h := Tryd.strings_Repeat ⟨#[48]⟩ 32 W (by decide) (by decide)
  rw [zero_rep] at h
  exact h
set_option maxRecDepth 100000 in
set_option maxHeartbeats 8000000 in
theorem modulo_calls (w : World) (hG : Gl w) (text self : ByteArray) (ht : text.size ≤ 4294967000) (hs : self.size ≤ 140737488351232) : Calls Tryd.prog 6 #[.string text, .string self] w fun e w' => Below w.heap.size w w' ∧
    ((hashNo (bs self) ≠ 0 ∧ e = .returned (.tuple #[.agg (zero32.map bcell).toArray, .slice none 0 0, .int .i64 (hashNo (bs self))])) ∨
     (hashNo (bs self) = 0 ∧ ∃ v', e = .returned (.tuple #[.agg ((of (mText (bs text) (bs self))).map bcell).toArray, v', .int .i64 0]) ∧ Kd.R (Kd.int .i64) 3 w' w.heap.size (fun _ => True) v' (zs (Pl (bs self) (bs text) 0)))) := by
  have HI : Aside0 ((Tryd.prog.info? 24).map (·.size) = some 32) := ⟨by kernel_rfl⟩
  have HG := Aside0.mk hG
  have HW := Aside0.mk hG.sz
  obtain ⟨W1, hW1⟩ : ∃ W1, w.alloc (.cells (List.replicate 32 (Value.int .u8 0)).toArray 24) = W1 := ⟨_, rfl⟩
  have HB1 : Aside0 (Below w.heap.size w W1) := ⟨by rw [← hW1]; exact (Below.refl w.heap.size w).alloc (Nat.le_refl _) _⟩
  have HX1 : Aside0 (W1.heap[w.heap.size]? = some (.cells (zero32.map bcell).toArray 24 (0, 0))) := ⟨by rw [← hW1]; exact World.alloc_heap_new w _⟩
  have HGB := Aside0.mk (fun (W : World) (hb : Below w.heap.size w W) => hG.less hb)
  have CR := Aside0.mk (fun (W : World) (hb : Below w.heap.size w W) => by
    obtain ⟨m, hm⟩ := (hG.less hb).mx
    exact rewrite_calls W m text self sZero hm ht hs (by decide))
  by_cases hh : hashNo (bs self) = 0
  · have hw0 : wanted2 self sZero = 0 := by rw [wanted_zero]; exact hh
    have hf := hash_len hh
    obtain ⟨B, hB⟩ : ∃ B : ByteArray, (⟨(R (bs self) (bs sZero) (bs text)).toArray⟩ : ByteArray) = B := ⟨_, rfl⟩
    have hbB : R (bs self) (bs sZero) (bs text) = bs B := by rw [← hB]; exact (bs_mk _).symm
    have hBs : B.size = text.size := by
      have := R_length (t := bs sZero) hf (hash_len zero_ok) _ (bs text) (Nat.le_refl _)
      rw [hbB, ← size_bs, ← size_bs] at this
      exact this
    have hpl := Pl_length hf _ (bs text) 0 (Nat.le_refl _)
    rw [← size_bs] at hpl
    have hpm := Pl_lt hf _ (bs text) 0 (Nat.le_refl _)
    rw [← size_bs, Nat.zero_add] at hpm
    have hmT : mText (bs text) (bs self) = bs B ++ marks (Pl (bs self) (bs text) 0) := by unfold mText; rw [hbB]
    obtain ⟨pl, hP⟩ : ∃ pl, Pl (bs self) (bs text) 0 = pl := ⟨_, rfl⟩
    rw [hP] at hpl hpm hmT
    have CR2 := Aside0.mk (fun (W : World) (hb : Below w.heap.size w W) => (CR.out W hb).mono (R' := fun e w' => Below W.heap.size W w' ∧ ∃ v', e = .returned (.tuple #[.string B, v', .int .i64 0]) ∧ Kd.R (Kd.int .i64) 3 w' W.heap.size (fun _ => True) v' (zs pl)) (fun e w' h => ⟨h.1, by
      rcases h.2 with h | h
      · exact absurd hw0 h.1
      · rw [hB, hP] at h
        exact h.2⟩))
    obtain ⟨L, hL⟩ : ∃ L, zs pl = L := ⟨_, rfl⟩
    have hLl : L.length = pl.length := by rw [← hL]; unfold zs; rw [List.length_map]
    have HLZ := Aside0.mk hL
    have HLL := Aside0.mk hLl
    rw [hL] at CR2
    have HMT := Aside0.mk hmT
    have HPM := Aside0.mk hpm
    have HPS := Aside0.mk hP
    have HHH := Aside0.mk hh
    have HBS := Aside0.mk (show B.size ≤ 4294967000 by omega)
    have HPL := Aside0.mk (show pl.length ≤ 4294967000 by omega)
    have HML := Aside0.mk (fun (i : Nat) => (show (marks (pl.take i)).length ≤ 22 * pl.length from by
      have h1 := marks_len (pl.take i) (fun p hp => by have := hpm p (List.mem_of_mem_take hp); omega)
      rw [List.length_take] at h1
      omega))
    clear hG CR hB hbB hBs hpl hpm hmT hP hw0 hh hf hLl hL
    go_enter Tryd.func6, Tryd.ntmps6
    go_upto_region 1 with fail
    change Code.wp _ _ _ _ (w.alloc (.cells (List.replicate 32 (Value.int .u8 0)).toArray 24))
    rw [hW1]
    clear hW1
    go_upto_region 6 with (first
      | (go_at_call 13; ((with_reducible refine (rep_calls _).mono ?_)); rintro e w2 ⟨rfl, hb⟩; have HB2 := Aside0.mk (HB1.out.trans (hb.mono HB1.out.size)); have HX2 := Aside0.mk ((hb.block _ (Array.getElem?_eq_some_iff.1 HX1.out).1).trans HX1.out); clear hb)
      | (go_at_call 9; ((with_reducible refine (CR2.out w2 HB2.out).mono ?_)); rintro e w3 ⟨hb, v3, rfl, hr⟩; have HB3 := Aside0.mk (HB2.out.trans (hb.mono HB2.out.size)); have HX3 := Aside0.mk ((hb.block _ (Array.getElem?_eq_some_iff.1 HX2.out).1).trans HX2.out); have HR3 := Aside0.mk (Kd.R_lower (Kd.R_mono (Kd.R_bound hr) (ok' := fun k => w.heap.size < k ∧ k < w3.heap.size) (fun k hk => ⟨Nat.lt_of_lt_of_le (Array.getElem?_eq_some_iff.1 HX2.out).1 hk.2.1, hk.2.2.1⟩)) HB2.out.size); obtain ⟨A3, c3, rfl, _, _⟩ := Kd.R_reads hr; clear hb hr)
      | (go_at_call 14; ((with_reducible refine (Sha.new_calls w3 (HGB.out w3 HB3.out).gl).mono ?_)); rintro e w4 ⟨rfl, ha, hb⟩; have HM4 := Aside0.mk (show Md w w3.heap.size 24 (.slice A3 L.length c3) L w4 ⟨0, H0, List.replicate 64 0, 0⟩ [] from ⟨(hb.block _ (Array.getElem?_eq_some_iff.1 HX3.out).1).trans HX3.out, ha, holds_new, HGB.out w4 (HB3.out.trans (hb.mono HB3.out.size)), Kd.R_below HR3.out hb, HB3.out.trans (hb.mono HB3.out.size), (Array.getElem?_eq_some_iff.1 HX3.out).1⟩); clear ha hb)
      | (go_at_call 15; ((with_reducible refine (writeText_calls _ _ _ _ w4 HM4.out.at_ HM4.out.ho HM4.out.gl.gl (by have := HM4.out.ne; have := HW.out; omega) (by have := HBS.out; simp only [List.length_nil]; omega)).mono ?_)); rintro e w5 ⟨rfl, s5, ht5, hh5⟩; have HM5 := Aside0.mk (HM4.out.turn ht5 hh5 HW.out); clear ht5 hh5))
    obtain ⟨b, hbb⟩ : ∃ b, w3.heap.size = b := ⟨_, rfl⟩
    rw [hbb] at HM5
    simp only [hbb]
    have HM6 := Aside0.mk (show Md w b 24 (.slice A3 L.length c3) L w5 s5 (bs B ++ marks (pl.take 0)) from by
      have := HM5.out
      rw [List.nil_append] at this
      have e : bs B ++ marks (pl.take 0) = B.data.toList := by simp [marks, bs]
      rw [e]
      exact this)
    obtain ⟨n, hn⟩ : ∃ n, L.length = n := ⟨_, rfl⟩
    have HNN := Aside0.mk hn
    have HNP := Aside0.mk (show pl.length = n by have := HLL.out; omega)
    simp only [hn] at HM6 ⊢
    have hnb : n ≤ 4294967000 := by have := HPL.out; have := HNP.out; omega
    clear HM4 HM5 HB1 HX1 HB2 HX2 HB3 HX3 HR3 hbb hn
    go_wp2
    go_loopg [31] n (fun g v31 wx => ∃ (i : Nat) (s : Sd), i + g = n ∧ v31 = .int .i64 (i : Int) ∧ Aside0 (Md w b 24 (.slice A3 n c3) L wx s (bs B ++ marks (pl.take i))))
    case atStart => exact ⟨0, s5, by omega, rfl, HM6⟩
    case round =>
      obtain ⟨i, s, hig, rfl, HM⟩ := hrel
      cases gk with
      | succ g =>
        have d1 : decide ((i : Int) < (n : Int)) = true := decide_eq_true (by omega)
        have hip : i < pl.length := by have := HNP.out; omega
        obtain ⟨p, hp⟩ : ∃ p, pl[i]? = some p := ⟨_, List.getElem?_eq_getElem hip⟩
        have hLi : L[i]? = some (p : Int) := by rw [← HLZ.out]; exact zs_get pl i p hp
        have hpb := HPM.out p (List.mem_of_getElem? hp)
        obtain ⟨ad, rfl, hl0⟩ := Kd.at_int (k := .i64) (Kd.R_reads' HM.out.li).2.2 (i : Int) (by omega) (by rw [HNN.out]; omega)
        have ez : rdOf (0 : Int) L (i : Int) = (p : Int) := by
          unfold rdOf
          rw [Int.toNat_natCast, List.getD_eq_getElem?_getD, hLi]
          rfl
        replace hl0 : wr.cell? (ad.add i) = some (.int .i64 (p : Int)) := by rw [← ez]; exact hl0
        obtain ⟨X, hX⟩ : ∃ X : ByteArray, (⟨(Lib.itoa (p : Int)).toArray⟩ : ByteArray) = X := ⟨_, rfl⟩
        have hbX : bs X = Lib.itoa (p : Int) := by rw [← hX]; exact bs_mk _
        have hXs : X.size ≤ 21 := by rw [size_bs, hbX]; exact Lib.itoa_length_le _ (by omega) (by omega)
        have hcat : (9223372036854775807 < 1 + X.size) = False := eq_false (by omega)
        have CI := Aside0.mk (fun (W : World) (h : Gl W) => Itoa.itoa_calls (p : Int) (by omega) (by omega) W h.tab)
        rw [hX] at CI
        have HST := Aside0.mk (show (bs B ++ marks (pl.take i)) ++ ((⟨#[124]⟩ : ByteArray) ++ X).data.toList = bs B ++ marks (pl.take (i + 1)) from by
          have e := bs_append (⟨#[124]⟩ : ByteArray) X
          unfold bs at e
          rw [e, marks_step pl i p hp]
          unfold bs at hbX
          rw [hbX, List.append_assoc]
          rfl)
        have HSL := Aside0.mk (show (bs B ++ marks (pl.take i)).length + ((⟨#[124]⟩ : ByteArray) ++ X).size < 4611686018427387904 from by
          have h1 := HML.out i
          have h2 := HBS.out
          have h3 := HPL.out
          rw [List.length_append, ← size_bs, ByteArray.size_append]
          have h4 : (⟨#[124]⟩ : ByteArray).size = 1 := rfl
          omega)
        clear hX hbX ez hLi hpb hp
        go_wp2_with (first
          | (go_at_call 16; ((with_reducible refine (CI.out wr HM.out.gl).mono ?_)); rintro e w6 ⟨rfl, hb⟩; have HM6 := Aside0.mk (HM.out.less hb); clear hb)
          | (go_at_call 15; ((with_reducible refine (writeText_calls s _ b _ w6 HM6.out.at_ HM6.out.ho HM6.out.gl.gl (by have := HM6.out.ne; have := HW.out; omega) HSL.out).mono ?_)); rintro e w7 ⟨rfl, s7, ht7, hh7⟩; rw [HST.out] at hh7; have HM7 := Aside0.mk (HM6.out.turn ht7 hh7 HW.out); clear ht7 hh7))
        go_roundg g
        case measure => omega
        case rel => exact ⟨i + 1, s7, by omega, by first | rfl | go_num | (congr 1; omega), HM7⟩
      | zero =>
        obtain rfl : i = n := by omega
        have d1 : decide ((i : Int) < (i : Int)) = false := decide_eq_false (by omega)
        have HSE := Aside0.mk (show bs B ++ marks (pl.take i) = mText (bs text) (bs self) by rw [HMT.out, List.take_of_length_le (by have := HNP.out; omega)])
        have HSL := Aside0.mk (show (bs B ++ marks (pl.take i)).length < 1152921504606846976 from by
          have h1 := HML.out i
          have h2 := HBS.out
          have h3 := HPL.out
          rw [List.length_append, ← size_bs]
          omega)
        obtain ⟨D, hD⟩ : ∃ D, of (mText (bs text) (bs self)) = D := ⟨_, rfl⟩
        have HDL := Aside0.mk (show D.length = 32 by rw [← hD]; exact of_len _)
        have CS := Aside0.mk (sum_calls pad_calls s _ b wr HM.out.at_ HM.out.ho HM.out.gl.gl HSL.out)
        rw [HSE.out, hD] at CS
        have HDD := Aside0.mk hD
        clear hD
        go_wp2_with (first
          | (go_at_call 17; ((with_reducible refine CS.out.mono ?_)); rintro e w8 ⟨rfl, hb⟩; have HM8 := Aside0.mk (HM.out.less hb); clear hb)
          | ((with_reducible refine gate_store (t := 24) (p := 4) rfl ?_); refine store32 rfl 24 (.tmp 4) (.tmp 42) rfl w.heap.size 24 zero32 D rfl rfl HM8.out.rb HI.out rfl HDL.out ?_; intro w9 hx9 hz9 hs9 hb9; have HX9 := Aside0.mk hx9; have HB9 := Aside0.mk (hb9 w.heap.size w (Nat.le_refl _) HM8.out.bel); have HR9 := Aside0.mk (Kd.R_mono (Kd.R_step (w1 := w9) HM8.out.li (fun k hk _ => hs9 k (by omega))) (ok' := fun _ => True) (fun _ _ => trivial)); clear hx9 hz9 hs9 hb9))
        refine bodyPost_ret (results_row_tmp_tmp rfl _ _ w.heap.size 24 (D.map bcell).toArray (0, 0) _ rfl HX9.out Tryd.underlying24 rfl (by rw [List.size_toArray, List.length_map, HDL.out]; exact HI.out)) rfl ⟨HB9.out, Or.inr ⟨HHH.out, .slice A3 i c3, by rw [HDD.out]; rfl, ?_⟩⟩
        rw [HPS.out, HLZ.out]
        exact HR9.out
  · have hw0 : wanted2 self sZero ≠ 0 := by rw [wanted_zero]; exact hh
    have hwz := wanted_zero self
    obtain ⟨nh, hnh⟩ : ∃ nh, hashNo (bs self) = nh := ⟨_, rfl⟩
    rw [hnh] at hwz
    have CR2 := Aside0.mk (fun (W : World) (hb : Below w.heap.size w W) => (CR.out W hb).mono (R' := fun e w' => Below W.heap.size W w' ∧ e = .returned (.tuple #[.string ⟨#[]⟩, .slice none 0 0, .int .i64 nh])) (fun e w' h => ⟨h.1, by
      rcases h.2 with h | h
      · rw [hwz] at h
        exact h.2
      · exact absurd h.1 hw0⟩))
    have HHH := Aside0.mk hnh
    have HHN := Aside0.mk hh
    rw [hnh] at hh
    have d1 : (nh == 0) = false := by simpa using hh
    have d2 : (nh = 0) = False := eq_false hh
    have d3 : (nh != 0) = true := by simpa using hh
    have d4 : decide (nh = 0) = false := decide_eq_false hh
    clear hG CR hw0 hwz hnh hh
    go_enter Tryd.func6, Tryd.ntmps6
    go_upto_region 1 with fail
    change Code.wp _ _ _ _ (w.alloc (.cells (List.replicate 32 (Value.int .u8 0)).toArray 24))
    rw [hW1]
    clear hW1
    go_wp2_with (first
      | (go_at_call 13; ((with_reducible refine (rep_calls _).mono ?_)); rintro e w2 ⟨rfl, hb⟩; have HB2 := Aside0.mk (HB1.out.trans (hb.mono HB1.out.size)); have HX2 := Aside0.mk ((hb.block _ (Array.getElem?_eq_some_iff.1 HX1.out).1).trans HX1.out); clear hb)
      | (go_at_call 9; ((with_reducible refine (CR2.out w2 HB2.out).mono ?_)); rintro e w3 ⟨hb, rfl⟩; have HB3 := Aside0.mk (HB2.out.trans (hb.mono HB2.out.size)); have HX3 := Aside0.mk ((hb.block _ (Array.getElem?_eq_some_iff.1 HX2.out).1).trans HX2.out); clear hb)
      | ((with_reducible refine gate_store (t := 24) (p := 4) rfl ?_); refine store32 rfl 24 (.tmp 4) (.tmp 23) rfl w.heap.size 24 zero32 zero32 rfl rfl HX3.out HI.out rfl rfl ?_; intro w9 hx9 hz9 hs9 hb9; have HX9 := Aside0.mk hx9; have HB9 := Aside0.mk (hb9 w.heap.size w (Nat.le_refl _) HB3.out); clear hx9 hz9 hs9 hb9))
    exact bodyPost_ret (results_row_tmp_tmp rfl _ _ w.heap.size 24 (zero32.map bcell).toArray (0, 0) _ rfl HX9.out Tryd.underlying24 rfl HI.out) rfl ⟨HB9.out, Or.inl ⟨HHN.out, by rw [HHH.out]; rfl⟩⟩
end Go.Proofs.YtbllmpfdhcbkpaaDoor.Scan
/- The reference's Modulo. -/
namespace Go.Proofs.YtbllmpfdhcbkpaaDoor.Scan
open Go.Shelf Go.RowKit Go.Proofs.YtbllmpfdhcbkpaaDoor.Sha Go.Proofs.YtbllmpfdhcbkpaaDoor.Q Go.Proofs.YtbllmpfdhcbkpaaDoor.SpathPure Go.Proofs.YtbllmpfdhcbkpaaDoor.Rise Go.Proofs.YtbllmpfdhcbkpaaDoorW.PrintWords Go.Proofs.YtbllmpfdhcbkpaaDoorW.PrintLast Go.Proofs.YtbllmpfdhcbkpaaDoorW.PrintMore Go.Proofs.YtbllmpfdhcbkpaaDoor.Bytes
set_option linter.unusedVariables false
set_option linter.unusedSimpArgs false
/-- What stands in its memory. -/
structure Rd (w : World) (ty : TypeId) (v : Value) (L : List Int) (W : World) : Prop where
  rb : W.heap[w.heap.size]? = some (.cells (zero32.map bcell).toArray ty (0, 0))
  gl : Gl W
  li : Kd.R (Kd.int .i64) 3 W w.heap.size (fun k => w.heap.size < k) v L
  bel : Below w.heap.size w W
theorem Rd.less {w W W2 : World} {ty : TypeId} {v : Value} {L : List Int} (h : Rd w ty v L W) (k : Below W.heap.size W W2) : Rd w ty v L W2 := by
  have h1 := (Array.getElem?_eq_some_iff.1 h.rb).1
  exact ⟨(k.block _ h1).trans h.rb, h.gl.less k, Kd.R_below h.li k, h.bel.trans (k.mono (Nat.le_of_lt h1))⟩
set_option maxRecDepth 100000 in
set_option maxHeartbeats 8000000 in
theorem rmodulo_calls (w : World) (hG : Gl w) (text self : ByteArray) (ht : text.size ≤ 1099511627776) (ht2 : text.size ≤ 4294967000) : Calls Tryd.prog 7 #[.string text, .string self] w fun e w' => Below w.heap.size w w' ∧
    ((hashNo (bs self) ≠ 0 ∧ e = .returned (.tuple #[.agg (zero32.map bcell).toArray, .slice none 0 0, .int .i64 (hashNo (bs self))])) ∨
     (hashNo (bs self) = 0 ∧ ∃ v', e = .returned (.tuple #[.agg ((of (mText (bs text) (bs self))).map bcell).toArray, v', .int .i64 0]) ∧ Kd.R (Kd.int .i64) 3 w' w.heap.size (fun _ => True) v' (zs (Pl (bs self) (bs text) 0)))) := by
  have HI : Aside0 ((Tryd.prog.info? 23).map (·.size) = some 32) := ⟨by kernel_rfl⟩
  have HG := Aside0.mk hG
  obtain ⟨W1, hW1⟩ : ∃ W1, w.alloc (.cells (List.replicate 32 (Value.int .u8 0)).toArray 23) = W1 := ⟨_, rfl⟩
  have HB1 : Aside0 (Below w.heap.size w W1) := ⟨by rw [← hW1]; exact (Below.refl w.heap.size w).alloc (Nat.le_refl _) _⟩
  have HX1 : Aside0 (W1.heap[w.heap.size]? = some (.cells (zero32.map bcell).toArray 23 (0, 0))) := ⟨by rw [← hW1]; exact World.alloc_heap_new w _⟩
  have HGB := Aside0.mk (fun (W : World) (hb : Below w.heap.size w W) => hG.less hb)
  obtain ⟨k, hk⟩ := ref_rewrite text self sZero ht2
  have hk := hk k (Nat.le_refl _)
  have hwz := wanted_zero self
  by_cases hh : hashNo (bs self) = 0
  · rw [if_pos (hwz.trans hh)] at hk
    have hf := hash_len hh
    obtain ⟨B, hB⟩ : ∃ B : ByteArray, (⟨(R (bs self) (bs sZero) (bs text)).toArray⟩ : ByteArray) = B := ⟨_, rfl⟩
    have hbB : R (bs self) (bs sZero) (bs text) = bs B := by rw [← hB]; exact (bs_mk _).symm
    have hBs : B.size = text.size := by
      have := R_length (t := bs sZero) hf (hash_len zero_ok) _ (bs text) (Nat.le_refl _)
      rw [hbB, ← size_bs, ← size_bs] at this
      exact this
    have hpl := Pl_length hf _ (bs text) 0 (Nat.le_refl _)
    rw [← size_bs] at hpl
    have hpm := Pl_lt hf _ (bs text) 0 (Nat.le_refl _)
    rw [← size_bs, Nat.zero_add] at hpm
    have hmT : mText (bs text) (bs self) = bs B ++ marks (Pl (bs self) (bs text) 0) := by unfold mText; rw [hbB]
    obtain ⟨pl, hP⟩ : ∃ pl, Pl (bs self) (bs text) 0 = pl := ⟨_, rfl⟩
    rw [hP] at hpl hpm hmT
    obtain ⟨L, hL⟩ : ∃ L, zs pl = L := ⟨_, rfl⟩
    have CF := Aside0.mk (fun (W : World) => depotref14_Rewrite.calls k text self sZero _ _ _ W hk)
    simp only [hB, hP, hL] at CF
    have CF : Aside0 (∀ (W : World), Calls Tryd.prog 18 #[.string text, .string self, .string ⟨#[48, 48, 48, 48, 48, 48, 48, 48, 48, 48, 48, 48, 48, 48, 48, 48, 48, 48, 48, 48, 48, 48, 48, 48, 48, 48, 48, 48, 48, 48, 48, 48]⟩] W (fun e w' => ∃ v1_ : Value, e = .returned (.tuple #[.string B, v1_, .int .i64 0]) ∧ Kd.R (Kd.int .i64) 3 w' W.heap.size (fun _ => True) v1_ L ∧ Below W.heap.size W w')) := CF
    have hLl : L.length = pl.length := by rw [← hL]; unfold zs; rw [List.length_map]
    have HLZ := Aside0.mk hL
    have HLL := Aside0.mk hLl
    have HMT := Aside0.mk hmT
    have HPM := Aside0.mk hpm
    have HPS := Aside0.mk hP
    have HHH := Aside0.mk hh
    have HBS := Aside0.mk (show B.size ≤ 4294967000 by omega)
    have HPL := Aside0.mk (show pl.length ≤ 4294967000 by omega)
    have HML := Aside0.mk (fun (i : Nat) => (show (marks (pl.take i)).length ≤ 22 * pl.length from by
      have h1 := marks_len (pl.take i) (fun p hp => by have := hpm p (List.mem_of_mem_take hp); omega)
      rw [List.length_take] at h1
      omega))
    clear hG hB hbB hBs hpl hpm hmT hP hh hf hLl hL hk hwz
    go_enter Tryd.func7, Tryd.ntmps7
    go_upto_region 1 with fail
    change Code.wp _ _ _ _ (w.alloc (.cells (List.replicate 32 (Value.int .u8 0)).toArray 23))
    rw [hW1]
    clear hW1
    go_upto_region 4 with (first
      | (go_at_call 18; ((with_reducible refine (CF.out W1).mono ?_)); rintro e w3 ⟨v3, rfl, hr, hb⟩; have HR3 := Aside0.mk (Kd.R_lower (Kd.R_mono (Kd.R_bound hr) (ok' := fun k => w.heap.size < k) (fun k hk => Nat.lt_of_lt_of_le (Array.getElem?_eq_some_iff.1 HX1.out).1 hk.2.1)) HB1.out.size); have HB3 := Aside0.mk (HB1.out.trans (hb.mono HB1.out.size)); have HM4 := Aside0.mk (show Rd w 23 v3 L w3 from ⟨(hb.block _ (Array.getElem?_eq_some_iff.1 HX1.out).1).trans HX1.out, HGB.out w3 HB3.out, HR3.out, HB3.out⟩); obtain ⟨A3, c3, rfl, _, _⟩ := Kd.R_reads hr; clear hb hr))
    obtain ⟨n, hn⟩ : ∃ n, L.length = n := ⟨_, rfl⟩
    have HNN := Aside0.mk hn
    have HNP := Aside0.mk (show pl.length = n by have := HLL.out; omega)
    simp only [hn] at HM4 ⊢
    have hnb : n ≤ 4294967000 := by have := HPL.out; have := HNP.out; omega
    clear HB1 HX1 HB3 HR3 hn
    go_wp2
    go_loopg [7, 10] n (fun g v7 v10 wx => ∃ (i : Nat) (X : ByteArray), i + g = n ∧ v7 = .string X ∧ v10 = .int .i64 (i : Int) ∧ Aside0 (bs X = bs B ++ marks (pl.take i)) ∧ Aside0 (Rd w 23 (.slice A3 n c3) L wx))
    case atStart => exact ⟨0, B, by omega, rfl, rfl, ⟨by simp [marks]⟩, HM4⟩
    case round =>
      obtain ⟨i, Y, hig, rfl, rfl, HY, HM⟩ := hrel
      have HYS := Aside0.mk (show Y.size ≤ 99999999999 from by
        have h1 := HML.out i
        have h2 := HBS.out
        have h3 := HPL.out
        rw [size_bs, HY.out, List.length_append, ← size_bs]
        omega)
      cases gk with
      | succ g =>
        have d1 : decide ((i : Int) < (n : Int)) = true := decide_eq_true (by omega)
        have hip : i < pl.length := by have := HNP.out; omega
        obtain ⟨p, hp⟩ : ∃ p, pl[i]? = some p := ⟨_, List.getElem?_eq_getElem hip⟩
        have hLi : L[i]? = some (p : Int) := by rw [← HLZ.out]; exact zs_get pl i p hp
        have hpb := HPM.out p (List.mem_of_getElem? hp)
        obtain ⟨ad, rfl, hl0⟩ := Kd.at_int (k := .i64) (Kd.R_reads' HM.out.li).2.2 (i : Int) (by omega) (by rw [HNN.out]; omega)
        have ez : rdOf (0 : Int) L (i : Int) = (p : Int) := by
          unfold rdOf
          rw [Int.toNat_natCast, List.getD_eq_getElem?_getD, hLi]
          rfl
        replace hl0 : wr.cell? (ad.add i) = some (.int .i64 (p : Int)) := by rw [← ez]; exact hl0
        obtain ⟨X, hX⟩ : ∃ X : ByteArray, (⟨(Lib.itoa (p : Int)).toArray⟩ : ByteArray) = X := ⟨_, rfl⟩
        have hbX : bs X = Lib.itoa (p : Int) := by rw [← hX]; exact bs_mk _
        have hXs : X.size ≤ 21 := by rw [size_bs, hbX]; exact Lib.itoa_length_le _ (by omega) (by omega)
        have hcat : (9223372036854775807 < 1 + X.size) = False := eq_false (by omega)
        have hys := HYS.out
        have hcat2 : (9223372036854775807 < Y.size + (1 + X.size)) = False := eq_false (by omega)
        have hcat3 : (9223372036854775807 < Y.size + ((⟨#[124]⟩ : ByteArray) ++ X).size) = False := eq_false (by
          rw [ByteArray.size_append]
          have h4 : (⟨#[124]⟩ : ByteArray).size = 1 := rfl
          omega)
        have CI := Aside0.mk (fun (W : World) (h : Gl W) => Itoa.itoa_calls (p : Int) (by omega) (by omega) W h.tab)
        rw [hX] at CI
        have HST := Aside0.mk (show bs (Y ++ ((⟨#[124]⟩ : ByteArray) ++ X)) = bs B ++ marks (pl.take (i + 1)) from by
          rw [bs_append, bs_append, hbX, HY.out, marks_step pl i p hp, List.append_assoc]
          rfl)
        clear hX hbX ez hLi hpb hp hys
        go_wp2_with (first
          | (go_at_call 16; ((with_reducible refine (CI.out wr HM.out.gl).mono ?_)); rintro e w6 ⟨rfl, hb⟩; have HM6 := Aside0.mk (HM.out.less hb); clear hb))
        go_roundg g
        case measure => omega
        case rel => exact ⟨i + 1, _, by omega, rfl, by first | rfl | go_num | (congr 1; omega), HST, HM6⟩
      | zero =>
        obtain rfl : i = n := by omega
        have d1 : decide ((i : Int) < (i : Int)) = false := decide_eq_false (by omega)
        have HSE := Aside0.mk (show bs Y = mText (bs text) (bs self) by rw [HY.out, HMT.out, List.take_of_length_le (by have := HNP.out; omega)])
        obtain ⟨D, hD⟩ : ∃ D, of (mText (bs text) (bs self)) = D := ⟨_, rfl⟩
        have HDL := Aside0.mk (show D.length = 32 by rw [← hD]; exact of_len _)
        have CS := Aside0.mk (rof_calls Y wr (by have := HYS.out; omega))
        have hD2 : of Y.data.toList = D := by rw [← hD, ← HSE.out]; rfl
        rw [hD2] at CS
        have HDD := Aside0.mk hD
        clear hD hD2
        go_wp2_with (first
          | (go_at_call 19; ((with_reducible refine CS.out.mono ?_)); rintro e w8 ⟨rfl, hb⟩; have HM8 := Aside0.mk (HM.out.less hb); clear hb)
          | ((with_reducible refine gate_store (t := 23) (p := 4) rfl ?_); refine store32 rfl 23 (.tmp 4) (.tmp 37) rfl w.heap.size 23 zero32 D rfl rfl HM8.out.rb HI.out rfl HDL.out ?_; intro w9 hx9 hz9 hs9 hb9; have HX9 := Aside0.mk hx9; have HB9 := Aside0.mk (hb9 w.heap.size w (Nat.le_refl _) HM8.out.bel); have HR9 := Aside0.mk (Kd.R_mono (Kd.R_step (w1 := w9) HM8.out.li (fun k hk _ => hs9 k (by omega))) (ok' := fun _ => True) (fun _ _ => trivial)); clear hx9 hz9 hs9 hb9))
        refine bodyPost_ret (results_row_tmp_tmp rfl _ _ w.heap.size 23 (D.map bcell).toArray (0, 0) _ rfl HX9.out Tryd.underlying23 rfl (by rw [List.size_toArray, List.length_map, HDL.out]; exact HI.out)) rfl ⟨HB9.out, Or.inr ⟨HHH.out, .slice A3 i c3, by rw [HDD.out]; rfl, ?_⟩⟩
        rw [HPS.out, HLZ.out]
        exact HR9.out
  · rw [if_neg (by rw [hwz]; exact hh)] at hk
    have CF := Aside0.mk (fun (W : World) => depotref14_Rewrite.calls k text self sZero _ _ _ W hk)
    obtain ⟨nh, hnh⟩ : ∃ nh, hashNo (bs self) = nh := ⟨_, rfl⟩
    rw [hnh] at hwz
    rw [hwz] at CF
    have CF : Aside0 (∀ (W : World), Calls Tryd.prog 18 #[.string text, .string self, .string ⟨#[48, 48, 48, 48, 48, 48, 48, 48, 48, 48, 48, 48, 48, 48, 48, 48, 48, 48, 48, 48, 48, 48, 48, 48, 48, 48, 48, 48, 48, 48, 48, 48]⟩] W (fun e w' => ∃ v1_ : Value, e = .returned (.tuple #[.string ⟨#[]⟩, v1_, .int .i64 nh]) ∧ Kd.R (Kd.int .i64) 3 w' W.heap.size (fun _ => True) v1_ [] ∧ Below W.heap.size W w')) := CF
    have HHH := Aside0.mk hnh
    have HHN := Aside0.mk hh
    rw [hnh] at hh
    have d1 : (nh == 0) = false := by simpa using hh
    have d2 : (nh = 0) = False := eq_false hh
    have d3 : (nh != 0) = true := by simpa using hh
    have d4 : decide (nh = 0) = false := decide_eq_false hh
    clear hG hwz hnh hh hk
    go_enter Tryd.func7, Tryd.ntmps7
    go_upto_region 1 with fail
    change Code.wp _ _ _ _ (w.alloc (.cells (List.replicate 32 (Value.int .u8 0)).toArray 23))
    rw [hW1]
    clear hW1
    go_wp2_with (first
      | (go_at_call 18; ((with_reducible refine (CF.out W1).mono ?_)); rintro e w3 ⟨v3, rfl, hr, hb⟩; have HB3 := Aside0.mk (HB1.out.trans (hb.mono HB1.out.size)); have HX3 := Aside0.mk ((hb.block _ (Array.getElem?_eq_some_iff.1 HX1.out).1).trans HX1.out); clear hb hr)
      | ((with_reducible refine gate_store (t := 23) (p := 4) rfl ?_); refine store32 rfl 23 (.tmp 4) (.tmp 20) rfl w.heap.size 23 zero32 zero32 rfl rfl HX3.out HI.out rfl rfl ?_; intro w9 hx9 hz9 hs9 hb9; have HX9 := Aside0.mk hx9; have HB9 := Aside0.mk (hb9 w.heap.size w (Nat.le_refl _) HB3.out); clear hx9 hz9 hs9 hb9))
    exact bodyPost_ret (results_row_tmp_tmp rfl _ _ w.heap.size 23 (zero32.map bcell).toArray (0, 0) _ rfl HX9.out Tryd.underlying23 rfl HI.out) rfl ⟨HB9.out, Or.inl ⟨HHN.out, by rw [HHH.out]; rfl⟩⟩
end Go.Proofs.YtbllmpfdhcbkpaaDoor.Scan
/- The laws ScanModulos and ScanSelf. -/
namespace Go.Proofs.YtbllmpfdhcbkpaaDoor.Scan
open Go.Shelf Go.RowKit Go.Proofs.YtbllmpfdhcbkpaaDoor.Sha Go.Proofs.YtbllmpfdhcbkpaaDoor.Q Go.Proofs.YtbllmpfdhcbkpaaDoor.SpathPure Go.Proofs.YtbllmpfdhcbkpaaDoor.Rise Go.Proofs.YtbllmpfdhcbkpaaDoor.Evs Go.Proofs.YtbllmpfdhcbkpaaDoorW.PrintWords Go.Proofs.YtbllmpfdhcbkpaaDoorW.PrintLast Go.Proofs.YtbllmpfdhcbkpaaDoorW.PrintMore Go.Proofs.YtbllmpfdhcbkpaaDoor.Bytes
set_option linter.unusedVariables false
set_option linter.unusedSimpArgs false
theorem eq_digests (xs ys : List UInt8) (hx : xs.length = 32) (hy : ys.length = 32) (W : World) : (Op.equalIn 10000 24 (.agg (xs.map bcell).toArray) (.agg (ys.map bcell).toArray)).run Tryd.prog W = .ok (xs == ys) W :=
  run_equalIn_bytes W 9998 24 5 32 Tryd.underlying24 Tryd.underlying5 (fun W => by kernel_rfl) xs ys hx hy
theorem range_of {W : World} {g : Nat} {D : List UInt8} {ty : TypeId} (h : W.heap[g]? = some (.cells (D.map bcell).toArray ty (0, 0))) : W.rangeAt g 0 (D.map bcell) := fun j v hv => by
  simp only [World.cell?, h, Nat.zero_add]
  simpa using hv
/-- Two lists of numbers, compared. -/
theorem ints_l1 (x y : List Int) (he : x.length = y.length) (hl : x.length ≤ 1099511627776) (d : Nat) : ∀ i, i + d = x.length → Ev (fun k => depotlaw14_ints.l0 k x y (x.length : Int) (i : Int)) (decide (x.drop i = y.drop i)) := by
  induction d with
  | zero =>
    intro i hi
    refine succ ?_
    simp only [depotlaw14_ints.l0]
    refine neg (by omega) ?_
    rw [List.drop_of_length_le (by omega), List.drop_of_length_le (by omega)]
    exact Ev.now _
  | succ d ih =>
    intro i hi
    refine succ ?_
    simp only [depotlaw14_ints.l0]
    refine pos (by omega) (pos (by omega) (pos (by omega) (pos (by omega) ?_)))
    have h1 : i < x.length := by omega
    have h2 : i < y.length := by omega
    have e1 : rd x (i : Int) = x[i] := by
      show rdOf (0 : Int) x (i : Int) = x[i]
      unfold rdOf
      rw [Int.toNat_natCast, List.getD_eq_getElem?_getD, List.getElem?_eq_getElem h1]
      rfl
    have e2 : rd y (i : Int) = y[i] := by
      show rdOf (0 : Int) y (i : Int) = y[i]
      unfold rdOf
      rw [Int.toNat_natCast, List.getD_eq_getElem?_getD, List.getElem?_eq_getElem h2]
      rfl
    rw [e1, e2]
    by_cases e : x[i] = y[i]
    · refine pos e ?_
      rw [wr i (by omega)]
      refine same ?_ (ih (i + 1) (by omega))
      refine decide_eq_decide.2 ?_
      rw [List.drop_eq_getElem_cons h1, List.drop_eq_getElem_cons h2, e]
      exact ⟨fun h => by injection h, fun h => by rw [h]⟩
    · refine neg e ?_
      have : decide (x.drop i = y.drop i) = false := decide_eq_false (fun h => by
        rw [List.drop_eq_getElem_cons h1, List.drop_eq_getElem_cons h2] at h
        injection h with h _
        exact e h)
      rw [this]
      exact Ev.now _
theorem ints_two (x y : List Int) (hl : x.length ≤ 1099511627776) : Ev (fun k => depotlaw14_ints.f k x y) (decide (x = y)) := by
  unfold depotlaw14_ints.f
  by_cases he : x.length = y.length
  · refine pos (by omega) ?_
    have := ints_l1 x y he hl x.length 0 (by omega)
    rwa [List.drop_zero, List.drop_zero] at this
  · refine neg (by omega) ?_
    rw [decide_eq_false (fun h => he (by rw [h]))]
    exact Ev.now _
/-- Where another stands just at the same places, all the rest is the same. -/
theorem Pl_ge {f : List UInt8} (hf : f.length = 32) : ∀ (n : Nat) (s : List UInt8) (d : Nat), s.length ≤ n → ∀ p ∈ Pl f s d, d ≤ p
  | 0, s, d, h, p, hp => by
    obtain rfl := List.eq_nil_of_length_eq_zero (Nat.le_zero.1 h)
    rw [Pl_nil] at hp
    cases hp
  | n + 1, [], d, _, p, hp => by rw [Pl_nil] at hp; cases hp
  | n + 1, c :: s, d, h, p, hp => by
    rw [List.length_cons] at h
    by_cases e : (c :: s).take 32 = f
    · have hl := congrArg List.length e
      rw [hf, List.length_take, List.length_cons] at hl
      rw [Pl_hit hf e] at hp
      rcases List.mem_cons.1 hp with rfl | hp
      · exact Nat.le_refl _
      · have := Pl_ge hf n ((c :: s).drop 32) (d + 32) (by rw [List.length_drop, List.length_cons]; omega) p hp
        omega
    · rw [Pl_miss e] at hp
      have := Pl_ge hf n s (d + 1) (by omega) p hp
      omega
theorem turn_same {f t z : List UInt8} (hf : f.length = 32) (ht : t.length = 32) : ∀ (n : Nat) (s : List UInt8) (d : Nat), s.length ≤ n → Pl t (R f t s) d = Pl f s d → R t z (R f t s) = R f z s
  | 0, s, d, h, e => by
    obtain rfl := List.eq_nil_of_length_eq_zero (Nat.le_zero.1 h)
    rw [R_nil, R_nil, R_nil]
  | n + 1, [], d, _, e => by rw [R_nil, R_nil, R_nil]
  | n + 1, c :: s, d, h, e => by
    rw [List.length_cons] at h
    by_cases he : (c :: s).take 32 = f
    · have hl := congrArg List.length he
      rw [hf, List.length_take, List.length_cons] at hl
      have hh : (t ++ R f t ((c :: s).drop 32)).take 32 = t := by
        rw [← ht, List.take_left]
      have hd : (t ++ R f t ((c :: s).drop 32)).drop 32 = R f t ((c :: s).drop 32) := by
        rw [← ht, List.drop_left]
      rw [R_hit hf he, Pl_hit hf he, Pl_hit ht hh, hd] at e
      injection e with _ e
      rw [R_hit hf he, R_hit hf he, R_hit ht hh, hd]
      rw [turn_same hf ht n ((c :: s).drop 32) (d + 32) (by rw [List.length_drop, List.length_cons]; omega) e]
    · rw [R_miss he, Pl_miss he] at e
      by_cases hh : (c :: R f t s).take 32 = t
      · rw [Pl_hit ht hh] at e
        have := Pl_ge hf s.length s (d + 1) (Nat.le_refl _) d (by rw [← e]; exact List.mem_cons_self)
        omega
      · rw [Pl_miss hh] at e
        rw [R_miss he, R_miss he, R_miss hh, turn_same hf ht n s (d + 1) (by omega) e]
theorem zs_inj {a b : List Nat} (h : zs a = zs b) : a = b := by
  unfold zs at h
  exact List.map_inj_right (fun x y hxy => Int.ofNat.inj hxy) |>.1 h
theorem zs_len (l : List Nat) : (zs l).length = l.length := by unfold zs; rw [List.length_map]
theorem mx_of {w : World} (h : Gl w) : ∃ m, w.cell? ⟨2, 0, none⟩ = some (.int .i64 m) := h.mx
set_option maxRecDepth 100000 in
set_option maxHeartbeats 8000000 in
theorem modulos_true (w : World) (hG : Gl w) (x0 x1 : ByteArray) (h0 : x0.size ≤ 1048576) (h1 : x1.size ≤ 1048576) :
    Calls Tryd.prog 3 #[.string x0, .string x1] w fun e w' => e = .returned (.bool true) ∧ Below w.heap.size w w' := by
  obtain ⟨m, hm⟩ := hG.mx
  have CA := Aside0.mk (awake_calls w m hm)
  have CM := Aside0.mk (fun (W : World) (hb : Below w.heap.size w W) => modulo_calls W (hG.less hb) x0 x1 (by omega) (by omega))
  have CN := Aside0.mk (fun (W : World) (hb : Below w.heap.size w W) => rmodulo_calls W (hG.less hb) x0 x1 (by omega) (by omega))
  have HI : Aside0 ((Tryd.prog.info? 24).map (·.size) = some 32) := ⟨by kernel_rfl⟩
  have HJ : Aside0 ((Tryd.prog.info? 23).map (·.size) = some 32) := ⟨by kernel_rfl⟩
  by_cases hh : hashNo (bs x1) = 0
  · have hpl := Pl_length (hash_len hh) _ (bs x0) 0 (Nat.le_refl _)
    rw [← size_bs] at hpl
    obtain ⟨P, hP⟩ : ∃ P : List Int, zs (Pl (bs x1) (bs x0) 0) = P := ⟨_, rfl⟩
    have hPl : P.length ≤ 1099511627776 := by rw [← hP, zs_len]; omega
    obtain ⟨k2, hk2⟩ := ints_same P hPl
    have HK2 := Aside0.mk (hk2 k2 (Nat.le_refl _))
    obtain ⟨D, hD⟩ : ∃ D, of (mText (bs x0) (bs x1)) = D := ⟨_, rfl⟩
    have hDL : D.length = 32 := by rw [← hD]; exact of_len _
    have HDL := Aside0.mk hDL
    have CM2 := Aside0.mk (fun (W : World) (hb : Below w.heap.size w W) => (CM.out W hb).mono (R' := fun e w' => Below W.heap.size W w' ∧ ∃ v', e = .returned (.tuple #[.agg (D.map bcell).toArray, v', .int .i64 0]) ∧ Kd.R (Kd.int .i64) 3 w' W.heap.size (fun _ => True) v' P) (fun e w' h => ⟨h.1, by
      rcases h.2 with h | h
      · exact absurd hh h.1
      · rw [hD, hP] at h
        exact h.2⟩))
    have CN2 := Aside0.mk (fun (W : World) (hb : Below w.heap.size w W) => (CN.out W hb).mono (R' := fun e w' => Below W.heap.size W w' ∧ ∃ v', e = .returned (.tuple #[.agg (D.map bcell).toArray, v', .int .i64 0]) ∧ Kd.R (Kd.int .i64) 3 w' W.heap.size (fun _ => True) v' P) (fun e w' h => ⟨h.1, by
      rcases h.2 with h | h
      · exact absurd hh h.1
      · rw [hD, hP] at h
        exact h.2⟩))
    have heq : ∀ W, (Op.equalIn 10000 24 (.agg (D.map bcell).toArray) (.agg (D.map bcell).toArray)).run Tryd.prog W = .ok true W := fun W => (eq_digests D D hDL hDL W).trans (by rw [beq_self_eq_true])
    have hgt : Tryd.prog.eqGuardType Tryd.prog.depth 24 = false := by kernel_rfl
    clear hG hm CM CN hh hpl hP hPl hk2 hD hDL h0 h1
    go_enter Tryd.func3, Tryd.ntmps3
    go_wp2_with (first
      | (go_at_call 5; ((with_reducible refine CA.out.mono ?_)); rintro e w1 ⟨rfl, hb⟩; have HB1 := Aside0.mk hb; clear hb)
      | (go_at_call 6; ((with_reducible refine (CM2.out w1 HB1.out).mono ?_)); rintro e w2 ⟨hb, v2, rfl, hr2⟩; have HB2 := Aside0.mk (HB1.out.trans (hb.mono HB1.out.size)); obtain ⟨A2, c2, rfl, hc2, hC2⟩ := Kd.R_reads hr2; have HC2 := Aside0.mk hC2; have HD2 := Aside0.mk hc2; clear hb hr2 hC2 hc2)
      | ((with_reducible refine gate_store (t := 24) (p := 5) rfl ?_); refine store32 rfl 24 (.tmp 5) (.tmp 17) rfl w2.heap.size 24 zero32 D rfl rfl (World.alloc_heap_new w2 _) HI.out rfl HDL.out ?_; intro w3 hx3 hz3 hs3 hb3; have HX3 := Aside0.mk hx3; have HB3 := Aside0.mk (hb3 w.heap.size w HB2.out.size (HB2.out.alloc HB2.out.size _)); have HC3 := Aside0.mk (Kd.C_below HC2.out (hb3 w2.heap.size w2 (Nat.le_refl _) ((Below.refl w2.heap.size w2).alloc (Nat.le_refl _) _))); have HL3 := Aside0.mk (Array.getElem?_eq_some_iff.1 hx3).1; clear hx3 hz3 hs3 hb3)
      | (go_at_call 7; ((with_reducible refine (CN2.out w3 HB3.out).mono ?_)); rintro e w4 ⟨hb, v4, rfl, hr4⟩; have HB4 := Aside0.mk (HB3.out.trans (hb.mono HB3.out.size)); have HC4 := Aside0.mk (Kd.C_below HC3.out hb); have HX4 := Aside0.mk ((hb.block _ HL3.out).trans HX3.out); obtain ⟨A4, c4, rfl, hc4, hC4⟩ := Kd.R_reads hr4; have HE4 := Aside0.mk hC4; have HD4 := Aside0.mk hc4; clear hb hr4 hC4 hc4)
      | ((with_reducible refine gate_store (t := 23) (p := 8) rfl ?_); refine store32 rfl 23 (.tmp 8) (.tmp 24) rfl w4.heap.size 23 zero32 D rfl rfl (World.alloc_heap_new w4 _) HJ.out rfl HDL.out ?_; intro w5 hx5 hz5 hs5 hb5; have HX5 := Aside0.mk hx5; have HB5 := Aside0.mk (hb5 w.heap.size w HB4.out.size (HB4.out.alloc HB4.out.size _)); have hk5 := hb5 w4.heap.size w4 (Nat.le_refl _) ((Below.refl w4.heap.size w4).alloc (Nat.le_refl _) _); have HC5 := Aside0.mk (Kd.C_below HC4.out hk5); have HE5 := Aside0.mk (Kd.C_below HE4.out hk5); have HX5' := Aside0.mk ((hk5.block _ (Array.getElem?_eq_some_iff.1 HX4.out).1).trans HX4.out); clear hx5 hz5 hs5 hb5 hk5)
      | ((with_reducible refine gate_dst (N := 27) rfl ?_); refine wpList_load_mid rfl 24 (.tmp 5) rfl w2.heap.size 0 rfl (D.map bcell) _ (range_of HX5'.out) Tryd.underlying24 rfl (by rw [List.length_map, HDL.out]; exact HI.out) ?_)
      | ((with_reducible refine gate_dst (N := 28) rfl ?_); refine wpList_load_mid rfl 23 (.tmp 8) rfl w4.heap.size 0 rfl (D.map bcell) _ (range_of HX5.out) Tryd.underlying23 rfl (by rw [List.length_map, HDL.out]; exact HJ.out) ?_)
      | (go_at_call 8; ((with_reducible refine (depotlaw14_ints.calls k2 A2 c2 P A4 c4 P true w5 HC5.out HD2.out HE5.out HD4.out HK2.out).mono ?_)); rintro e w6 ⟨rfl, hd⟩; have HB6 := Aside0.mk (HB5.out.trans (hd.below.mono HB5.out.size)); clear hd))
    go_ret
    exact ⟨rfl, HB6.out⟩
  · obtain ⟨k2, hk2⟩ := ints_same [] (by decide)
    have HK2 := Aside0.mk (hk2 k2 (Nat.le_refl _))
    obtain ⟨nh, hnh⟩ : ∃ nh, hashNo (bs x1) = nh := ⟨_, rfl⟩
    have CM2 := Aside0.mk (fun (W : World) (hb : Below w.heap.size w W) => (CM.out W hb).mono (R' := fun e w' => Below W.heap.size W w' ∧ e = .returned (.tuple #[.agg (zero32.map bcell).toArray, .slice none 0 0, .int .i64 nh])) (fun e w' h => ⟨h.1, by
      rcases h.2 with h | h
      · rw [hnh] at h
        exact h.2
      · exact absurd h.1 hh⟩))
    have CN2 := Aside0.mk (fun (W : World) (hb : Below w.heap.size w W) => (CN.out W hb).mono (R' := fun e w' => Below W.heap.size W w' ∧ e = .returned (.tuple #[.agg (zero32.map bcell).toArray, .slice none 0 0, .int .i64 nh])) (fun e w' h => ⟨h.1, by
      rcases h.2 with h | h
      · rw [hnh] at h
        exact h.2
      · exact absurd h.1 hh⟩))
    have heq : ∀ W, (Op.equalIn 10000 24 (.agg (zero32.map bcell).toArray) (.agg (zero32.map bcell).toArray)).run Tryd.prog W = .ok true W := fun W => (eq_digests zero32 zero32 rfl rfl W).trans (by rw [beq_self_eq_true])
    have hgt : Tryd.prog.eqGuardType Tryd.prog.depth 24 = false := by kernel_rfl
    obtain ⟨D, hD⟩ : ∃ D, zero32 = D := ⟨_, rfl⟩
    have HDL := Aside0.mk (show D.length = 32 by rw [← hD]; rfl)
    rw [hD] at heq CM2 CN2
    have HZ := Aside0.mk (fun (W : World) (ty : TypeId) => (show (W.alloc (.cells (List.replicate 32 (Value.int .u8 0)).toArray ty)).heap[W.heap.size]? = some (.cells (D.map bcell).toArray ty (0, 0)) by rw [← hD]; exact World.alloc_heap_new W _))
    have d2 : (nh == nh) = true := by simp
    clear hG hm CM CN hh hk2 hnh h0 h1 hD
    go_enter Tryd.func3, Tryd.ntmps3
    go_wp2_with (first
      | (go_at_call 5; ((with_reducible refine CA.out.mono ?_)); rintro e w1 ⟨rfl, hb⟩; have HB1 := Aside0.mk hb; clear hb)
      | (go_at_call 6; ((with_reducible refine (CM2.out w1 HB1.out).mono ?_)); rintro e w2 ⟨hb, rfl⟩; have HB2 := Aside0.mk (HB1.out.trans (hb.mono HB1.out.size)); clear hb)
      | ((with_reducible refine gate_store (t := 24) (p := 5) rfl ?_); refine store32 rfl 24 (.tmp 5) (.tmp 17) rfl w2.heap.size 24 D D rfl rfl (HZ.out w2 _) HI.out HDL.out HDL.out ?_; intro w3 hx3 hz3 hs3 hb3; have HX3 := Aside0.mk hx3; have HB3 := Aside0.mk (hb3 w.heap.size w HB2.out.size (HB2.out.alloc HB2.out.size _)); have HL3 := Aside0.mk (Array.getElem?_eq_some_iff.1 hx3).1; clear hx3 hz3 hs3 hb3)
      | (go_at_call 7; ((with_reducible refine (CN2.out w3 HB3.out).mono ?_)); rintro e w4 ⟨hb, rfl⟩; have HB4 := Aside0.mk (HB3.out.trans (hb.mono HB3.out.size)); have HX4 := Aside0.mk ((hb.block _ HL3.out).trans HX3.out); clear hb)
      | ((with_reducible refine gate_store (t := 23) (p := 8) rfl ?_); refine store32 rfl 23 (.tmp 8) (.tmp 24) rfl w4.heap.size 23 D D rfl rfl (HZ.out w4 _) HJ.out HDL.out HDL.out ?_; intro w5 hx5 hz5 hs5 hb5; have HX5 := Aside0.mk hx5; have HB5 := Aside0.mk (hb5 w.heap.size w HB4.out.size (HB4.out.alloc HB4.out.size _)); have hk5 := hb5 w4.heap.size w4 (Nat.le_refl _) ((Below.refl w4.heap.size w4).alloc (Nat.le_refl _) _); have HX5' := Aside0.mk ((hk5.block _ (Array.getElem?_eq_some_iff.1 HX4.out).1).trans HX4.out); clear hx5 hz5 hs5 hb5 hk5)
      | ((with_reducible refine gate_dst (N := 27) rfl ?_); refine wpList_load_mid rfl 24 (.tmp 5) rfl w2.heap.size 0 rfl (D.map bcell) _ (range_of HX5'.out) Tryd.underlying24 rfl (by rw [List.length_map, HDL.out]; exact HI.out) ?_)
      | ((with_reducible refine gate_dst (N := 28) rfl ?_); refine wpList_load_mid rfl 23 (.tmp 8) rfl w4.heap.size 0 rfl (D.map bcell) _ (range_of HX5.out) Tryd.underlying23 rfl (by rw [List.length_map, HDL.out]; exact HJ.out) ?_)
      | (go_at_call 8; have CI : Calls Tryd.prog 8 #[.slice none 0 0, .slice none 0 0] w5 (fun e w' => e = .returned (.bool true) ∧ Drawn0 w5 w') := depotlaw14_ints.calls k2 none 0 [] none 0 [] true w5 ⟨rfl, by decide, fun h => absurd h (by decide)⟩ (Nat.le_refl _) ⟨rfl, by decide, fun h => absurd h (by decide)⟩ (Nat.le_refl _) HK2.out; ((with_reducible refine CI.mono ?_)); rintro e w6 ⟨rfl, hd⟩; have HB6 := Aside0.mk (HB5.out.trans (hd.below.mono HB5.out.size)); clear hd))
    go_ret
    exact ⟨rfl, HB6.out⟩
theorem mText_same {text f t : List UInt8} (hf : f.length = 32) (ht : t.length = 32) (h : zs (Pl t (R f t text) 0) = zs (Pl f text 0)) : mText (R f t text) t = mText text f := by
  have h := zs_inj h
  unfold mText
  rw [turn_same hf ht text.length text 0 (Nat.le_refl _) h, h]
theorem wanted2_or (f t : ByteArray) (h : wanted2 f t ≠ 0) : wanted2 f t = 131 := by
  unfold wanted2 at h ⊢
  by_cases hf : hashNo (bs f) = 0
  · rw [if_neg (fun k => k hf)] at h ⊢
    exact (hashNo_cases (bs t)).resolve_left h
  · rw [if_pos hf]
    exact (hashNo_cases (bs f)).resolve_left hf
set_option maxRecDepth 100000 in
set_option maxHeartbeats 8000000 in
theorem self_true (w : World) (hG : Gl w) (x0 x1 x2 : ByteArray) (h0 : x0.size ≤ 1048576) (h1 : x1.size ≤ 1048576) (h2 : x2.size ≤ 1048576) :
    Calls Tryd.prog 4 #[.string x0, .string x1, .string x2] w fun e w' => e = .returned (.bool true) ∧ Below w.heap.size w w' := by
  obtain ⟨m, hm⟩ := hG.mx
  have CA := Aside0.mk (awake_calls w m hm)
  have CM := Aside0.mk (fun (W : World) (hb : Below w.heap.size w W) => modulo_calls W (hG.less hb) x0 x1 (by omega) (by omega))
  have CR := Aside0.mk (fun (W : World) (hb : Below w.heap.size w W) => by
    obtain ⟨m, hm⟩ := (hG.less hb).mx
    exact rewrite_calls W m x0 x1 x2 hm (by omega) (by omega) (by omega))
  have HI : Aside0 ((Tryd.prog.info? 24).map (·.size) = some 32) := ⟨by kernel_rfl⟩
  have hgt : Tryd.prog.eqGuardType Tryd.prog.depth 24 = false := by kernel_rfl
  by_cases hw : wanted2 x1 x2 = 0
  · have hf0 : hashNo (bs x1) = 0 := by
      unfold wanted2 at hw
      by_cases hf : hashNo (bs x1) = 0
      · exact hf
      · rw [if_pos hf] at hw
        exact hw
    have ht0 : hashNo (bs x2) = 0 := by
      unfold wanted2 at hw
      rw [if_neg (fun k => k hf0)] at hw
      exact hw
    have hf := hash_len hf0
    have ht := hash_len ht0
    obtain ⟨B, hB⟩ : ∃ B : ByteArray, (⟨(R (bs x1) (bs x2) (bs x0)).toArray⟩ : ByteArray) = B := ⟨_, rfl⟩
    have hbB : R (bs x1) (bs x2) (bs x0) = bs B := by rw [← hB]; exact (bs_mk _).symm
    have hBs : B.size = x0.size := by
      have := R_length (t := bs x2) hf ht _ (bs x0) (Nat.le_refl _)
      rw [hbB, ← size_bs, ← size_bs] at this
      exact this
    have CM3 := Aside0.mk (fun (W : World) (hb : Below w.heap.size w W) => modulo_calls W (hG.less hb) B x2 (by omega) (by omega))
    have hpl := Pl_length hf _ (bs x0) 0 (Nat.le_refl _)
    rw [← size_bs] at hpl
    have hql := Pl_length ht _ (bs B) 0 (Nat.le_refl _)
    rw [← size_bs] at hql
    have hms : zs (Pl (bs x2) (bs B) 0) = zs (Pl (bs x1) (bs x0) 0) → mText (bs B) (bs x2) = mText (bs x0) (bs x1) := fun h => by
      rw [← hbB] at h ⊢
      exact mText_same hf ht h
    obtain ⟨P, hP⟩ : ∃ P : List Int, zs (Pl (bs x1) (bs x0) 0) = P := ⟨_, rfl⟩
    obtain ⟨Q, hQ⟩ : ∃ Q : List Int, zs (Pl (bs x2) (bs B) 0) = Q := ⟨_, rfl⟩
    have hPl : P.length ≤ 1099511627776 := by rw [← hP, zs_len]; omega
    have hQl : Q.length ≤ 1099511627776 := by rw [← hQ, zs_len]; omega
    obtain ⟨D, hD⟩ : ∃ D, of (mText (bs x0) (bs x1)) = D := ⟨_, rfl⟩
    obtain ⟨E, hE⟩ : ∃ E, of (mText (bs B) (bs x2)) = E := ⟨_, rfl⟩
    have hDL : D.length = 32 := by rw [← hD]; exact of_len _
    have hEL : E.length = 32 := by rw [← hE]; exact of_len _
    rw [hP, hQ] at hms
    have hDE : Q = P → D = E := fun h => by rw [← hD, ← hE, hms h]
    obtain ⟨k2, hk2⟩ := ints_same P hPl
    have HK2 := Aside0.mk (hk2 k2 (Nat.le_refl _))
    obtain ⟨k3, hk3⟩ := ints_two Q P hQl
    have hk3 := hk3 k3 (Nat.le_refl _)
    have HDL := Aside0.mk hDL
    have HEL := Aside0.mk hEL
    have CM2 := Aside0.mk (fun (W : World) (hb : Below w.heap.size w W) => (CM.out W hb).mono (R' := fun e w' => Below W.heap.size W w' ∧ ∃ v', e = .returned (.tuple #[.agg (D.map bcell).toArray, v', .int .i64 0]) ∧ Kd.R (Kd.int .i64) 3 w' W.heap.size (fun _ => True) v' P) (fun e w' h => ⟨h.1, by
      rcases h.2 with h | h
      · exact absurd hf0 h.1
      · rw [hD, hP] at h
        exact h.2⟩))
    have CM4 := Aside0.mk (fun (W : World) (hb : Below w.heap.size w W) => (CM3.out W hb).mono (R' := fun e w' => Below W.heap.size W w' ∧ ∃ v', e = .returned (.tuple #[.agg (E.map bcell).toArray, v', .int .i64 0]) ∧ Kd.R (Kd.int .i64) 3 w' W.heap.size (fun _ => True) v' Q) (fun e w' h => ⟨h.1, by
      rcases h.2 with h | h
      · exact absurd ht0 h.1
      · rw [hE, hQ] at h
        exact h.2⟩))
    have CR2 := Aside0.mk (fun (W : World) (hb : Below w.heap.size w W) => (CR.out W hb).mono (R' := fun e w' => Below W.heap.size W w' ∧ ∃ v', e = .returned (.tuple #[.string B, v', .int .i64 0]) ∧ Kd.R (Kd.int .i64) 3 w' W.heap.size (fun _ => True) v' P) (fun e w' h => ⟨h.1, by
      rcases h.2 with h | h
      · exact absurd hw h.1
      · rw [hB, hP] at h
        exact h.2⟩))
    by_cases hqp : Q = P
    · obtain rfl := hDE hqp
      subst hqp
      have heq : ∀ W, (Op.equalIn 10000 24 (.agg (D.map bcell).toArray) (.agg (D.map bcell).toArray)).run Tryd.prog W = .ok true W := fun W => (eq_digests D D hDL hDL W).trans (by rw [beq_self_eq_true])
      clear hG hm CM CM3 CR hw hf0 ht0 hf ht hB hbB hBs hpl hql hms hP hQ hPl hQl hD hE hDL hEL hDE hk2 hk3 h0 h1 h2
      go_enter Tryd.func4, Tryd.ntmps4
      go_wp2_with (first
        | (go_at_call 5; ((with_reducible refine CA.out.mono ?_)); rintro e w1 ⟨rfl, hb⟩; have HB1 := Aside0.mk hb; clear hb)
        | (go_at_call_has 6 (Value.string x1); ((with_reducible refine (CM2.out w1 HB1.out).mono ?_)); rintro e w2 ⟨hb, v2, rfl, hr2⟩; have HB2 := Aside0.mk (HB1.out.trans (hb.mono HB1.out.size)); obtain ⟨A2, c2, rfl, hc2, hC2⟩ := Kd.R_reads hr2; have HC2 := Aside0.mk hC2; have HD2 := Aside0.mk hc2; clear hb hr2 hC2 hc2)
        | ((with_reducible refine gate_store (t := 24) (p := 7) rfl ?_); refine store32 rfl 24 (.tmp 7) (.tmp 22) rfl w2.heap.size 24 zero32 D rfl rfl (World.alloc_heap_new w2 _) HI.out rfl HDL.out ?_; intro w3 hx3 hz3 hs3 hb3; have HX3 := Aside0.mk hx3; have HB3 := Aside0.mk (hb3 w.heap.size w HB2.out.size (HB2.out.alloc HB2.out.size _)); have HC3 := Aside0.mk (Kd.C_below HC2.out (hb3 w2.heap.size w2 (Nat.le_refl _) ((Below.refl w2.heap.size w2).alloc (Nat.le_refl _) _))); have HL3 := Aside0.mk (Array.getElem?_eq_some_iff.1 hx3).1; clear hx3 hz3 hs3 hb3)
        | (go_at_call 9; ((with_reducible refine (CR2.out w3 HB3.out).mono ?_)); rintro e w4 ⟨hb, v4, rfl, hr4⟩; have HB4 := Aside0.mk (HB3.out.trans (hb.mono HB3.out.size)); have HC4 := Aside0.mk (Kd.C_below HC3.out hb); have HX4 := Aside0.mk ((hb.block _ HL3.out).trans HX3.out); have HL4 := Aside0.mk (Nat.lt_of_lt_of_le HL3.out hb.size); obtain ⟨A4, c4, rfl, hc4, hC4⟩ := Kd.R_reads hr4; have HE4 := Aside0.mk hC4; have HD4 := Aside0.mk hc4; clear hb hr4 hC4 hc4)
        | (go_at_call_has 8 (Value.slice A4 Q.length c4); ((with_reducible refine (depotlaw14_ints.calls k2 A2 c2 Q A4 c4 Q true w4 HC4.out HD2.out HE4.out HD4.out HK2.out).mono ?_)); rintro e w5 ⟨rfl, hd⟩; have HB5 := Aside0.mk (HB4.out.trans (hd.below.mono HB4.out.size)); have HC5 := Aside0.mk (Kd.C_below HC4.out hd.below); have HX5 := Aside0.mk ((hd.below.block _ HL4.out).trans HX4.out); have HL5 := Aside0.mk (Nat.lt_of_lt_of_le HL4.out hd.below.size); clear hd)
        | (go_at_call_has 6 (Value.string x2); ((with_reducible refine (CM4.out w5 HB5.out).mono ?_)); rintro e w6 ⟨hb, v6, rfl, hr6⟩; have HB6 := Aside0.mk (HB5.out.trans (hb.mono HB5.out.size)); have HC6 := Aside0.mk (Kd.C_below HC5.out hb); have HX6 := Aside0.mk ((hb.block _ HL5.out).trans HX5.out); have HL6 := Aside0.mk (Nat.lt_of_lt_of_le HL5.out hb.size); obtain ⟨A6, c6, rfl, hc6, hC6⟩ := Kd.R_reads hr6; have HE6 := Aside0.mk hC6; have HD6 := Aside0.mk hc6; clear hb hr6 hC6 hc6)
        | ((with_reducible refine gate_store (t := 24) (p := 13) rfl ?_); refine store32 rfl 24 (.tmp 13) (.tmp 66) rfl w6.heap.size 24 zero32 D rfl rfl (World.alloc_heap_new w6 _) HI.out rfl HDL.out ?_; intro w7 hx7 hz7 hs7 hb7; have HX7 := Aside0.mk hx7; have HB7 := Aside0.mk (hb7 w.heap.size w HB6.out.size (HB6.out.alloc HB6.out.size _)); have hk7 := hb7 w6.heap.size w6 (Nat.le_refl _) ((Below.refl w6.heap.size w6).alloc (Nat.le_refl _) _); have HC7 := Aside0.mk (Kd.C_below HC6.out hk7); have HE7 := Aside0.mk (Kd.C_below HE6.out hk7); have HX7' := Aside0.mk ((hk7.block _ HL6.out).trans HX6.out); have HL7 := Aside0.mk (And.intro (Nat.lt_of_lt_of_le HL6.out hk7.size) (Array.getElem?_eq_some_iff.1 hx7).1); clear hx7 hz7 hs7 hb7 hk7)
        | (go_at_call_has 8 (Value.slice A6 Q.length c6); ((with_reducible refine (depotlaw14_ints.calls k2 A6 c6 Q A2 c2 Q true w7 HE7.out HD6.out HC7.out HD2.out HK2.out).mono ?_)); rintro e w8 ⟨rfl, hd⟩; have HB8 := Aside0.mk (HB7.out.trans (hd.below.mono HB7.out.size)); have HX8 := Aside0.mk ((hd.below.block _ HL7.out.2).trans HX7.out); have HX8' := Aside0.mk ((hd.below.block _ HL7.out.1).trans HX7'.out); clear hd)
        | ((with_reducible refine gate_dst (N := 76) rfl ?_); refine gate_guard (by rfl) ?_; refine wpList_load_mid rfl 24 (.tmp 7) rfl w2.heap.size 0 rfl (D.map bcell) _ (range_of HX8'.out) Tryd.underlying24 rfl (by rw [List.length_map, HDL.out]; exact HI.out) ?_)
        | ((with_reducible refine gate_dst (N := 77) rfl ?_); refine gate_guard (by rfl) ?_; refine wpList_load_mid rfl 24 (.tmp 13) rfl w6.heap.size 0 rfl (D.map bcell) _ (range_of HX8.out) Tryd.underlying24 rfl (by rw [List.length_map, HDL.out]; exact HI.out) ?_))
      go_ret
      exact ⟨rfl, HB8.out⟩
    · rw [decide_eq_false hqp] at hk3
      have HK3 := Aside0.mk hk3
      clear hG hm CM CM3 CR hw hf0 ht0 hf ht hB hbB hBs hpl hql hms hP hQ hPl hQl hD hE hDL hEL hDE hk2 hk3 h0 h1 h2 hqp
      go_enter Tryd.func4, Tryd.ntmps4
      go_wp2_with (first
        | (go_at_call 5; ((with_reducible refine CA.out.mono ?_)); rintro e w1 ⟨rfl, hb⟩; have HB1 := Aside0.mk hb; clear hb)
        | (go_at_call_has 6 (Value.string x1); ((with_reducible refine (CM2.out w1 HB1.out).mono ?_)); rintro e w2 ⟨hb, v2, rfl, hr2⟩; have HB2 := Aside0.mk (HB1.out.trans (hb.mono HB1.out.size)); obtain ⟨A2, c2, rfl, hc2, hC2⟩ := Kd.R_reads hr2; have HC2 := Aside0.mk hC2; have HD2 := Aside0.mk hc2; clear hb hr2 hC2 hc2)
        | ((with_reducible refine gate_store (t := 24) (p := 7) rfl ?_); refine store32 rfl 24 (.tmp 7) (.tmp 22) rfl w2.heap.size 24 zero32 D rfl rfl (World.alloc_heap_new w2 _) HI.out rfl HDL.out ?_; intro w3 hx3 hz3 hs3 hb3; have HX3 := Aside0.mk hx3; have HB3 := Aside0.mk (hb3 w.heap.size w HB2.out.size (HB2.out.alloc HB2.out.size _)); have HC3 := Aside0.mk (Kd.C_below HC2.out (hb3 w2.heap.size w2 (Nat.le_refl _) ((Below.refl w2.heap.size w2).alloc (Nat.le_refl _) _))); clear hx3 hz3 hs3 hb3)
        | (go_at_call 9; ((with_reducible refine (CR2.out w3 HB3.out).mono ?_)); rintro e w4 ⟨hb, v4, rfl, hr4⟩; have HB4 := Aside0.mk (HB3.out.trans (hb.mono HB3.out.size)); have HC4 := Aside0.mk (Kd.C_below HC3.out hb); obtain ⟨A4, c4, rfl, hc4, hC4⟩ := Kd.R_reads hr4; have HE4 := Aside0.mk hC4; have HD4 := Aside0.mk hc4; clear hb hr4 hC4 hc4)
        | (go_at_call_has 8 (Value.slice A4 P.length c4); ((with_reducible refine (depotlaw14_ints.calls k2 A2 c2 P A4 c4 P true w4 HC4.out HD2.out HE4.out HD4.out HK2.out).mono ?_)); rintro e w5 ⟨rfl, hd⟩; have HB5 := Aside0.mk (HB4.out.trans (hd.below.mono HB4.out.size)); have HC5 := Aside0.mk (Kd.C_below HC4.out hd.below); clear hd)
        | (go_at_call_has 6 (Value.string x2); ((with_reducible refine (CM4.out w5 HB5.out).mono ?_)); rintro e w6 ⟨hb, v6, rfl, hr6⟩; have HB6 := Aside0.mk (HB5.out.trans (hb.mono HB5.out.size)); have HC6 := Aside0.mk (Kd.C_below HC5.out hb); obtain ⟨A6, c6, rfl, hc6, hC6⟩ := Kd.R_reads hr6; have HE6 := Aside0.mk hC6; have HD6 := Aside0.mk hc6; clear hb hr6 hC6 hc6)
        | ((with_reducible refine gate_store (t := 24) (p := 13) rfl ?_); refine store32 rfl 24 (.tmp 13) (.tmp 66) rfl w6.heap.size 24 zero32 E rfl rfl (World.alloc_heap_new w6 _) HI.out rfl HEL.out ?_; intro w7 hx7 hz7 hs7 hb7; have HB7 := Aside0.mk (hb7 w.heap.size w HB6.out.size (HB6.out.alloc HB6.out.size _)); have hk7 := hb7 w6.heap.size w6 (Nat.le_refl _) ((Below.refl w6.heap.size w6).alloc (Nat.le_refl _) _); have HC7 := Aside0.mk (Kd.C_below HC6.out hk7); have HE7 := Aside0.mk (Kd.C_below HE6.out hk7); clear hx7 hz7 hs7 hb7 hk7)
        | (go_at_call_has 8 (Value.slice A6 Q.length c6); ((with_reducible refine (depotlaw14_ints.calls k3 A6 c6 Q A2 c2 P false w7 HE7.out HD6.out HC7.out HD2.out HK3.out).mono ?_)); rintro e w8 ⟨rfl, hd⟩; have HB8 := Aside0.mk (HB7.out.trans (hd.below.mono HB7.out.size)); clear hd))
      go_ret
      exact ⟨rfl, HB8.out⟩
  · have hw131 := wanted2_or x1 x2 hw
    have CR2 := Aside0.mk (fun (W : World) (hb : Below w.heap.size w W) => (CR.out W hb).mono (R' := fun e w' => Below W.heap.size W w' ∧ e = .returned (.tuple #[.string ⟨#[]⟩, .slice none 0 0, .int .i64 131])) (fun e w' h => ⟨h.1, by
      rcases h.2 with h | h
      · rw [hw131] at h
        exact h.2
      · exact absurd h.1 hw⟩))
    by_cases hh : hashNo (bs x1) = 0
    · obtain ⟨D, hD⟩ : ∃ D, of (mText (bs x0) (bs x1)) = D := ⟨_, rfl⟩
      have HDL := Aside0.mk (show D.length = 32 by rw [← hD]; exact of_len _)
      have CM2 := Aside0.mk (fun (W : World) (hb : Below w.heap.size w W) => (CM.out W hb).mono (R' := fun e w' => Below W.heap.size W w' ∧ ∃ A n c, e = .returned (.tuple #[.agg (D.map bcell).toArray, .slice A n c, .int .i64 0])) (fun e w' h => ⟨h.1, by
        rcases h.2 with h | h
        · exact absurd hh h.1
        · rw [hD] at h
          obtain ⟨_, v, e1, hr⟩ := h
          obtain ⟨A, c, rfl, _, _⟩ := Kd.R_reads hr
          exact ⟨_, _, _, e1⟩⟩))
      clear hG hm CM CR hw hw131 hh hD h0 h1 h2
      go_enter Tryd.func4, Tryd.ntmps4
      go_wp2_with (first
        | (go_at_call 5; ((with_reducible refine CA.out.mono ?_)); rintro e w1 ⟨rfl, hb⟩; have HB1 := Aside0.mk hb; clear hb)
        | (go_at_call 6; ((with_reducible refine (CM2.out w1 HB1.out).mono ?_)); rintro e w2 ⟨hb, A2, n2, c2, rfl⟩; have HB2 := Aside0.mk (HB1.out.trans (hb.mono HB1.out.size)); clear hb)
        | ((with_reducible refine gate_store (t := 24) (p := 7) rfl ?_); refine store32 rfl 24 (.tmp 7) (.tmp 22) rfl w2.heap.size 24 zero32 D rfl rfl (World.alloc_heap_new w2 _) HI.out rfl HDL.out ?_; intro w3 hx3 hz3 hs3 hb3; have HB3 := Aside0.mk (hb3 w.heap.size w HB2.out.size (HB2.out.alloc HB2.out.size _)); clear hx3 hz3 hs3 hb3)
        | (go_at_call 9; ((with_reducible refine (CR2.out w3 HB3.out).mono ?_)); rintro e w4 ⟨hb, rfl⟩; have HB4 := Aside0.mk (HB3.out.trans (hb.mono HB3.out.size)); clear hb))
      go_ret
      exact ⟨rfl, HB4.out⟩
    · have h131 := (hashNo_cases (bs x1)).resolve_left hh
      have CM2 := Aside0.mk (fun (W : World) (hb : Below w.heap.size w W) => (CM.out W hb).mono (R' := fun e w' => Below W.heap.size W w' ∧ e = .returned (.tuple #[.agg (zero32.map bcell).toArray, .slice none 0 0, .int .i64 131])) (fun e w' h => ⟨h.1, by
        rcases h.2 with h | h
        · rw [h131] at h
          exact h.2
        · exact absurd h.1 hh⟩))
      have heq : ∀ W, (Op.equalIn 10000 24 (.agg (zero32.map bcell).toArray) (.agg #[Value.int .u8 0, Value.int .u8 0, Value.int .u8 0, Value.int .u8 0, Value.int .u8 0, Value.int .u8 0, Value.int .u8 0, Value.int .u8 0, Value.int .u8 0, Value.int .u8 0, Value.int .u8 0, Value.int .u8 0, Value.int .u8 0, Value.int .u8 0, Value.int .u8 0, Value.int .u8 0, Value.int .u8 0, Value.int .u8 0, Value.int .u8 0, Value.int .u8 0, Value.int .u8 0, Value.int .u8 0, Value.int .u8 0, Value.int .u8 0, Value.int .u8 0, Value.int .u8 0, Value.int .u8 0, Value.int .u8 0, Value.int .u8 0, Value.int .u8 0, Value.int .u8 0, Value.int .u8 0])).run Tryd.prog W = .ok true W := fun W => (eq_digests zero32 zero32 rfl rfl W).trans (by rw [beq_self_eq_true])
      have HZL := Aside0.mk (show zero32.length = 32 from rfl)
      obtain ⟨Z, hZ⟩ : ∃ Z, zero32 = Z := ⟨_, rfl⟩
      have HZ0 := Aside0.mk (fun (W : World) (ty : TypeId) => (show (W.alloc (.cells (List.replicate 32 (Value.int .u8 0)).toArray ty)).heap[W.heap.size]? = some (.cells (Z.map bcell).toArray ty (0, 0)) by rw [← hZ]; exact World.alloc_heap_new W _))
      rw [hZ] at CM2 heq HZL
      clear hG hm CM CR hw hw131 hh h131 hZ h0 h1 h2
      go_enter Tryd.func4, Tryd.ntmps4
      go_wp2_with (first
        | (go_at_call 5; ((with_reducible refine CA.out.mono ?_)); rintro e w1 ⟨rfl, hb⟩; have HB1 := Aside0.mk hb; clear hb)
        | (go_at_call 6; ((with_reducible refine (CM2.out w1 HB1.out).mono ?_)); rintro e w2 ⟨hb, rfl⟩; have HB2 := Aside0.mk (HB1.out.trans (hb.mono HB1.out.size)); clear hb)
        | ((with_reducible refine gate_store (t := 24) (p := 7) rfl ?_); refine store32 rfl 24 (.tmp 7) (.tmp 22) rfl w2.heap.size 24 Z Z rfl rfl (HZ0.out w2 _) HI.out HZL.out HZL.out ?_; intro w3 hx3 hz3 hs3 hb3; have HX3 := Aside0.mk hx3; have HB3 := Aside0.mk (hb3 w.heap.size w HB2.out.size (HB2.out.alloc HB2.out.size _)); have HL3 := Aside0.mk (Array.getElem?_eq_some_iff.1 hx3).1; clear hx3 hz3 hs3 hb3)
        | (go_at_call 9; ((with_reducible refine (CR2.out w3 HB3.out).mono ?_)); rintro e w4 ⟨hb, rfl⟩; have HB4 := Aside0.mk (HB3.out.trans (hb.mono HB3.out.size)); have HX4 := Aside0.mk ((hb.block _ HL3.out).trans HX3.out); clear hb)
        | ((with_reducible refine gate_dst (N := 48) rfl ?_); refine gate_guard (by rfl) ?_; refine wpList_load_mid rfl 24 (.tmp 7) rfl w2.heap.size 0 rfl (Z.map bcell) _ (range_of HX4.out) Tryd.underlying24 rfl (by rw [List.length_map, HZL.out]; exact HI.out) ?_))
      go_ret
      exact ⟨rfl, HB4.out⟩
end Go.Proofs.YtbllmpfdhcbkpaaDoor.Scan
/- Small sums: what a bound on a sum says of each member. -/
namespace Go.Proofs.YtbllmpfdhcbkpaaDoor.Upto
theorem mem_le {α : Type} (f : α → Nat) : ∀ (l : List α), ∀ x ∈ l, f x ≤ (l.map f).sum
  | [], x, h => by cases h
  | y :: l, x, h => by
    rw [List.map_cons, List.sum_cons]
    rcases List.mem_cons.1 h with rfl | h
    · omega
    · have := mem_le f l x h
      omega
theorem len_le {α : Type} (f : α → Nat) : ∀ (l : List α), (∀ x ∈ l, 1 ≤ f x) → l.length ≤ (l.map f).sum
  | [], _ => Nat.zero_le _
  | y :: l, h => by
    rw [List.map_cons, List.sum_cons, List.length_cons]
    have h1 := h y List.mem_cons_self
    have := len_le f l (fun x hx => h x (List.mem_cons_of_mem _ hx))
    omega
end Go.Proofs.YtbllmpfdhcbkpaaDoor.Upto
