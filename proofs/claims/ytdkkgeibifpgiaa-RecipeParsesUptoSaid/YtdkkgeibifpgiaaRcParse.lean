/- The recipe's Parse: what stands in memory, and how it ends. -/
import Derived.Test.YtdkkgeibifpgiaaRcSteps
namespace Go.Proofs.Ytdkkgeibifpgiaa.Rc
open Go.RowKit Go.Lib Go.Proofs.YtdkkgeibifpgiaaW.PrintWords Go.Proofs.YtdkkgeibifpgiaaW.PrintLast Go.Proofs.YtdkkgeibifpgiaaW.PrintMore Go.Proofs.Ytdkkgeibifpgiaa.Bytes Go.Proofs.Ytdkkgeibifpgiaa.Q
set_option linter.unusedVariables false
set_option linter.unusedSimpArgs false

/-- Parse's four boxes: the recipe, the error, the reader, the pointer to it. -/
structure Pr (h : Nat) (T : ByteArray) (x0 x1 x2 : Value) (p : Nat) (w W : World) : Prop where
  got : W.heap[h]? = some (.cells #[x0, x1, x2] 26 (0, 0))
  err : W.heap[h + 1]? = some (.cells #[.nilIface] 28 (0, 0))
  rd : RdAt W (h + 1 + 1) T p
  ptr : Boxed W (h + 1 + 1 + 1) 48 (.pointer (some ⟨h + 1 + 1, 0, none⟩))
  below : Below h w W
section
variable {h p q : Nat} {T : ByteArray} {x0 x1 x2 : Value} {w W W2 : World}
theorem Pr.size (k : Pr h T x0 x1 x2 p w W) : h + 1 + 1 + 1 < W.heap.size := k.ptr.lt
theorem Pr.step (k : Pr h T x0 x1 x2 p w W) (f : Rf (h + 1 + 1) W W2) (r : RdAt W2 (h + 1 + 1) T q) : Pr h T x0 x1 x2 q w W2 := by
  have := k.size
  exact ⟨(f.block h (by omega) (by omega)).trans k.got, (f.block (h + 1) (by omega) (by omega)).trans k.err, r, (f.block (h + 1 + 1 + 1) (by omega) (by omega)).trans k.ptr, k.below.trans (f.below (by omega) (by omega))⟩
theorem Pr.set (k : Pr h T x0 x1 x2 p w W) (i : Nat) (v : Value) (y0 y1 y2 : Value) (e : (W.setCell ⟨h, i, none⟩ v).heap[h]? = some (.cells #[y0, y1, y2] 26 (0, 0))) : Pr h T y0 y1 y2 p w (W.setCell ⟨h, i, none⟩ v) := by
  refine ⟨e, (Below.heap_setCell _ _ _ (h + 1) (by show h + 1 ≠ h; omega)).trans k.err, (Below.heap_setCell _ _ _ (h + 1 + 1) (by show h + 1 + 1 ≠ h; omega)).trans k.rd, (Below.heap_setCell _ _ _ (h + 1 + 1 + 1) (by show h + 1 + 1 + 1 ≠ h; omega)).trans k.ptr, ?_⟩
  exact k.below.trans ⟨rfl, rfl, rfl, (KeepsWalks.setCell W _ v).size, fun i hi => Below.heap_setCell _ _ _ i (by show i ≠ h; omega)⟩
theorem Pr.set0 (k : Pr h T x0 x1 x2 p w W) (v : Value) : Pr h T v x1 x2 p w (W.setCell ⟨h, 0, none⟩ v) := k.set 0 v v x1 x2 (by simp [World.setCell, Array.getElem?_modify, k.got])
theorem Pr.set1 (k : Pr h T x0 x1 x2 p w W) (v : Value) : Pr h T x0 v x2 p w (W.setCell ⟨h, 1, none⟩ v) := k.set 1 v x0 v x2 (by simp [World.setCell, Array.getElem?_modify, k.got])
theorem Pr.c0 (k : Pr h T x0 x1 x2 p w W) : W.cell? ⟨h, 0, none⟩ = some x0 := by simp [World.cell?, k.got]
theorem Pr.c1 (k : Pr h T x0 x1 x2 p w W) : W.cell? ⟨h, 1, none⟩ = some x1 := by simp [World.cell?, k.got]
theorem Pr.c2 (k : Pr h T x0 x1 x2 p w W) : W.cell? ⟨h, 2, none⟩ = some x2 := by simp [World.cell?, k.got]
theorem Pr.fro (k : Pr h T x0 x1 x2 p w W) (i : Nat) : W.frozen? ⟨h, i, none⟩ = false := by simp [World.frozen?, k.got]
theorem Pr.c3 (k : Pr h T x0 x1 x2 p w W) : W.cell? ⟨h + 1, 0, none⟩ = some .nilIface := by simp [World.cell?, k.err]
theorem Pr.fro3 (k : Pr h T x0 x1 x2 p w W) : W.frozen? ⟨h + 1, 0, none⟩ = false := by simp [World.frozen?, k.err]
end
theorem Pr.start (T : ByteArray) (w : World) : Pr w.heap.size T (.string ⟨#[]⟩) (.slice none 0 0) (.slice none 0 0) 0 w ((((w.alloc (.cells #[.string ⟨#[]⟩, .slice none 0 0, .slice none 0 0] 26)).alloc (.cells #[.nilIface] 28)).alloc (.cells #[.string T, .int .i64 0] 50)).alloc (.cells #[.pointer (some ⟨w.heap.size + 1 + 1, 0, none⟩)] 48)) := by
  have a1 : ∀ (W : World) (o : Obj), (W.alloc o).heap.size = W.heap.size + 1 := fun W o => Array.size_push _
  have a2 : ∀ (W : World) (o : Obj) (k : Nat), k < W.heap.size → (W.alloc o).heap[k]? = W.heap[k]? := fun W o k hk => ((Below.refl W.heap.size W).alloc (Nat.le_refl _) o).block k hk
  have a3 : ∀ (W : World) (o : Obj) (k : Nat), k = W.heap.size → (W.alloc o).heap[k]? = some o := fun W o k hk => by rw [hk]; exact World.alloc_heap_new W o
  refine ⟨?_, ?_, ?_, ?_, ?_⟩
  · rw [a2 _ _ _ (by simp only [a1]; omega), a2 _ _ _ (by simp only [a1]; omega), a2 _ _ _ (by simp only [a1]; omega), a3 _ _ _ rfl]
  · rw [a2 _ _ _ (by simp only [a1]; omega), a2 _ _ _ (by simp only [a1]; omega), a3 _ _ _ (by simp only [a1])]
  · show _ = _
    rw [a2 _ _ _ (by simp only [a1]; omega), a3 _ _ _ (by simp only [a1])]
    rfl
  · show _ = _
    rw [a3 _ _ _ (by simp only [a1])]
  · exact ((((Below.refl _ w).alloc (Nat.le_refl _) _).alloc (by simp only [a1]; omega) _).alloc (by simp only [a1]; omega) _).alloc (by simp only [a1]; omega) _
/-- What Parse computes. -/
def parseL (s : List UInt8) : Res (ByteArray × List ByteArray × List S47) :=
  (wordL [82, 101, 99, 105, 112, 101, 40] s).bind fun _ r1 => (strB r1).bind fun nm r2 => (wordL [44] r2).bind fun _ r3 => ((wordL [91] r3).bind fun _ r => listL strB 93 true r).bind fun deps r4 => (wordL [44] r4).bind fun _ r5 =>
    (stepsL r5).bind fun steps r6 => (wordL [41] r6).bind fun _ r7 => if r7 = [] then .ok (nm, deps, steps) [] else .bad r7.length
def ParseR (T : ByteArray) (w : World) (r : Res (ByteArray × List ByteArray × List S47)) (e : Ending) (w' : World) : Prop :=
  match r with
  | .ok x _ => ∃ dv sv, e = .returned (.tuple #[.agg #[.string x.1, dv, sv], .nilIface]) ∧ Kd.string.R 9 w' w.heap.size (fun _ => True) dv x.2.1 ∧ kSt.R 47 w' w.heap.size (fun _ => True) sv x.2.2 ∧ Below w.heap.size w w'
  | .bad l => ∃ g, e = .returned (.tuple #[.agg #[.string ⟨#[]⟩, .slice none 0 0, .slice none 0 0], .iface 51 (.pointer (some ⟨g, 0, none⟩))]) ∧ w.heap.size ≤ g ∧ w'.heap[g]? = some (.cells #[.int .i64 210, .int .i64 ((T.size - l : Nat) : Int)] 40 (0, 0)) ∧ Below w.heap.size w w'
theorem below_set {n : Nat} {w W : World} (h : Below n w W) (a : Addr) (v : Value) (ha : n ≤ a.block) : Below n w (W.setCell a v) := h.trans ⟨rfl, rfl, rfl, (KeepsWalks.setCell W _ v).size, fun i hi => Below.heap_setCell _ _ _ i (by omega)⟩
theorem Pr.ivp {h p : Nat} {T : ByteArray} {x0 x1 x2 : Value} {w W W' : World} (k : Pr h T x0 x1 x2 p w W) (f : Rf (h + 1 + 1) W W') : IvP h (h + 1) (.cells #[.nilIface] 28 (0, 0)) W' ∧ Below h w W' := by
  have := k.size
  exact ⟨⟨⟨x0, x1, x2, (f.block h (by omega) (by omega)).trans k.got⟩, (f.block (h + 1) (by omega) (by omega)).trans k.err⟩, k.below.trans (f.below (by omega) (by omega))⟩
set_option maxHeartbeats 2000000 in
/-- A panic of the reader's is caught. -/
theorem caught {T : ByteArray} {l : Nat} {w W' : World} {g : Nat} (k : IvP w.heap.size (w.heap.size + 1) (.cells #[.nilIface] 28 (0, 0)) W') (kb : Below w.heap.size w W') (hgs : w.heap.size ≤ g) (hf : W'.heap[g]? = some (.cells #[.int .i64 210, .int .i64 ((T.size - l : Nat) : Int)] 40 (0, 0)))
    (tmps : Array Value) (t2 : tmps.getD 2 undef = .pointer (some ⟨w.heap.size, 0, none⟩)) (t3 : tmps.getD 3 undef = .pointer (some ⟨w.heap.size + 1, 0, none⟩)) :
    Leaves Try.prog Try.f9 tmps (ParseR T w (.bad l)) [{ target := .fn (.func 16) #[.pointer (some ⟨w.heap.size, 0, none⟩), .pointer (some ⟨w.heap.size + 1, 0, none⟩)], args := #[] }] (.panicking [{ v := .iface 51 (.pointer (some ⟨g, 0, none⟩)), recovered := false }]) W' := by
  obtain ⟨⟨x0, x1, x2, kg⟩, ke⟩ := k
  have hne : g ≠ w.heap.size := fun e => by rw [e, kg] at hf; simp at hf
  have hne1 : g ≠ w.heap.size + 1 := fun e => by rw [e, ke] at hf; simp at hf
  refine leaves_cons (f := 16) (args := #[.pointer (some ⟨w.heap.size, 0, none⟩), .pointer (some ⟨w.heap.size + 1, 0, none⟩)]) (by simp) (by simp [go_sem]) ?_
  refine (catch_panicking w.heap.size (w.heap.size + 1) (.pointer (some ⟨g, 0, none⟩)) [] x0 x1 x2 .nilIface W' kg ke (by omega)).mono ?_
  rintro e u' w'' ⟨rfl, rfl, rfl⟩
  obtain ⟨W2, hW2⟩ : ∃ W2, W2 = (((W'.setCell ⟨w.heap.size, 0, none⟩ (.string ⟨#[]⟩)).setCell ⟨w.heap.size, 1, none⟩ (.slice none 0 0)).setCell ⟨w.heap.size, 2, none⟩ (.slice none 0 0)) := ⟨_, rfl⟩
  have hf2 : W2.heap[g]? = W'.heap[g]? := by
    rw [hW2]
    exact (Below.heap_setCell _ _ _ g (by show g ≠ w.heap.size; omega)).trans ((Below.heap_setCell _ _ _ g (by show g ≠ w.heap.size; omega)).trans (Below.heap_setCell _ _ _ g (by show g ≠ w.heap.size; omega)))
  have kg2 : W2.heap[w.heap.size]? = some (.cells #[.string ⟨#[]⟩, .slice none 0 0, .slice none 0 0] 26 (0, 0)) := by simp [hW2, World.setCell, Array.getElem?_modify, kg]
  have b2 : Boxed W2 (w.heap.size + 1) 28 .nilIface := by
    show _ = _
    rw [hW2]
    exact ((Below.heap_setCell _ _ _ (w.heap.size + 1) (by show w.heap.size + 1 ≠ w.heap.size; omega)).trans ((Below.heap_setCell _ _ _ (w.heap.size + 1) (by show w.heap.size + 1 ≠ w.heap.size; omega)).trans (Below.heap_setCell _ _ _ (w.heap.size + 1) (by show w.heap.size + 1 ≠ w.heap.size; omega)))).trans ke
  have kb2 : Below w.heap.size w W2 := by rw [hW2]; exact below_set (below_set (below_set kb _ _ (Nat.le_refl _)) _ _ (Nat.le_refl _)) _ _ (Nat.le_refl _)
  rw [← hW2]
  have d3 := (b2.set (.iface 51 (.pointer (some ⟨g, 0, none⟩)))).cell
  have hgot : (W2.setCell ⟨w.heap.size + 1, 0, none⟩ (.iface 51 (.pointer (some ⟨g, 0, none⟩)))).heap[w.heap.size]? = some (.cells #[.string ⟨#[]⟩, .slice none 0 0, .slice none 0 0] 26 (0, 0)) := (Below.heap_setCell _ _ _ w.heap.size (by show w.heap.size ≠ w.heap.size + 1; omega)).trans kg2
  have d0 : (W2.setCell ⟨w.heap.size + 1, 0, none⟩ (.iface 51 (.pointer (some ⟨g, 0, none⟩)))).cell? ⟨w.heap.size, 0, none⟩ = some (.string ⟨#[]⟩) := by simp [World.cell?, hgot]
  have d1 : (W2.setCell ⟨w.heap.size + 1, 0, none⟩ (.iface 51 (.pointer (some ⟨g, 0, none⟩)))).cell? ⟨w.heap.size, 1, none⟩ = some (.slice none 0 0) := by simp [World.cell?, hgot]
  have d2 : (W2.setCell ⟨w.heap.size + 1, 0, none⟩ (.iface 51 (.pointer (some ⟨g, 0, none⟩)))).cell? ⟨w.heap.size, 2, none⟩ = some (.slice none 0 0) := by simp [World.cell?, hgot]
  have hfin : (W2.setCell ⟨w.heap.size + 1, 0, none⟩ (.iface 51 (.pointer (some ⟨g, 0, none⟩)))).heap[g]? = some (.cells #[.int .i64 210, .int .i64 ((T.size - l : Nat) : Int)] 40 (0, 0)) := (Below.heap_setCell _ _ _ g (by show g ≠ w.heap.size + 1; omega)).trans (hf2.trans hf)
  have hbel : Below w.heap.size w (W2.setCell ⟨w.heap.size + 1, 0, none⟩ (.iface 51 (.pointer (some ⟨g, 0, none⟩)))) := below_set kb2 _ _ (Nat.le_succ _)
  generalize (W2.setCell ⟨w.heap.size + 1, 0, none⟩ (.iface 51 (.pointer (some ⟨g, 0, none⟩)))) = W3 at *
  refine ⟨.tuple #[.agg #[.string ⟨#[]⟩, .slice none 0 0, .slice none 0 0], .iface 51 (.pointer (some ⟨g, 0, none⟩))], ?_, g, rfl, by omega, hfin, hbel⟩
  simp [results, show Try.f9.results = #[.cell 2 26, .cell 3 28] from rfl, -Array.getD_eq_getD_getElem?, t2, t3, go_sem, d0, d1, d2, d3]
set_option maxHeartbeats 2000000 in
/-- Parse returns. -/
theorem Pr.returns {T nm : ByteArray} {deps : List ByteArray} {steps : List S47} {dv sv : Value} {w W' : World} {n : Nat} (k : Pr w.heap.size T (.string nm) dv sv n w W') (h1 : Kd.string.R 9 W' w.heap.size (fun _ => True) dv deps) (h2 : kSt.R 47 W' w.heap.size (fun _ => True) sv steps)
    (tmps : Array Value) (t2 : tmps.getD 2 undef = .pointer (some ⟨w.heap.size, 0, none⟩)) (t3 : tmps.getD 3 undef = .pointer (some ⟨w.heap.size + 1, 0, none⟩)) :
    Leaves Try.prog Try.f9 tmps (ParseR T w (.ok (nm, deps, steps) [])) [{ target := .fn (.func 16) #[.pointer (some ⟨w.heap.size, 0, none⟩), .pointer (some ⟨w.heap.size + 1, 0, none⟩)], args := #[] }] .returning W' := by
  refine leaves_cons (f := 16) (args := #[.pointer (some ⟨w.heap.size, 0, none⟩), .pointer (some ⟨w.heap.size + 1, 0, none⟩)]) (by simp) (by simp [go_sem]) ?_
  refine (catch_idle w.heap.size (w.heap.size + 1) W').mono ?_
  rintro e u' w'' ⟨rfl, rfl, rfl⟩
  have d0 := k.c0
  have d1 := k.c1
  have d2 := k.c2
  have d3 := k.c3
  obtain ⟨Ad, cd, ed⟩ := Kd.R_slice h1
  obtain ⟨As, cs, es⟩ := Kd.R_slice h2
  subst ed es
  refine ⟨.tuple #[.agg #[.string nm, _, _], .nilIface], ?_, _, _, rfl, h1, h2, k.below⟩
  simp [results, show Try.f9.results = #[.cell 2 26, .cell 3 28] from rfl, -Array.getD_eq_getD_getElem?, t2, t3, go_sem, d0, d1, d2, d3]
theorem R_setf {α : Type} {d : Kd α} {e b h : Nat} {ok : Nat → Prop} {W : World} {v u : Value} {xs : List α} (r : d.R e W b ok v xs) (i j : Nat) (hb : h + j < b) : d.R e (W.setCell ⟨h + j, i, none⟩ u) b ok v xs :=
  Kd.R_mono (Kd.R_far (Kd.R_bound r) (fun k hk => by have := hk.2.1; show k ≠ h + j; omega) u) (fun _ hk => hk.1)
/-- The last stores, and home. -/
theorem Pr.ends {T nm : ByteArray} {deps : List ByteArray} {steps : List S47} {dv sv : Value} {w W : World} {n b1 b2 : Nat} {ok1 ok2 : Nat → Prop} (k : Pr w.heap.size T (.string nm) dv sv n w W) (h1 : Kd.string.R 9 W b1 ok1 dv deps) (h2 : kSt.R 47 W b2 ok2 sv steps) (hb1 : w.heap.size + 1 < b1) (hb2 : w.heap.size + 1 < b2)
    (tmps : Array Value) (t2 : tmps.getD 2 undef = .pointer (some ⟨w.heap.size, 0, none⟩)) (t3 : tmps.getD 3 undef = .pointer (some ⟨w.heap.size + 1, 0, none⟩)) :
    Leaves Try.prog Try.f9 tmps (ParseR T w (.ok (nm, deps, steps) [])) [{ target := .fn (.func 16) #[.pointer (some ⟨w.heap.size, 0, none⟩), .pointer (some ⟨w.heap.size + 1, 0, none⟩)], args := #[] }] .returning ((((W.setCell ⟨w.heap.size, 0, none⟩ (.string nm)).setCell ⟨w.heap.size, 1, none⟩ dv).setCell ⟨w.heap.size, 2, none⟩ sv).setCell ⟨w.heap.size + 1, 0, none⟩ .nilIface) := by
  have k2 := ((k.set0 (.string nm)).set1 dv).set 2 sv (.string nm) dv sv (setGot ((k.set0 (.string nm)).set1 dv).got)
  have r1 := R_setf (h := w.heap.size) (u := .nilIface) (R_setf (h := w.heap.size) (u := sv) (R_setf (h := w.heap.size) (u := dv) (R_setf (h := w.heap.size) (u := .string nm) h1 0 0 (by omega)) 1 0 (by omega)) 2 0 (by omega)) 0 1 (by omega)
  have r2 := R_setf (h := w.heap.size) (u := .nilIface) (R_setf (h := w.heap.size) (u := sv) (R_setf (h := w.heap.size) (u := dv) (R_setf (h := w.heap.size) (u := .string nm) h2 0 0 (by omega)) 1 0 (by omega)) 2 0 (by omega)) 0 1 (by omega)
  simp only [Nat.add_zero] at r1 r2
  generalize (((W.setCell ⟨w.heap.size, 0, none⟩ (.string nm)).setCell ⟨w.heap.size, 1, none⟩ dv).setCell ⟨w.heap.size, 2, none⟩ sv) = W2 at *
  have hs := k2.size
  have k3 : Pr w.heap.size T (.string nm) dv sv n w (W2.setCell ⟨w.heap.size + 1, 0, none⟩ .nilIface) := by
    refine ⟨(Below.heap_setCell _ _ _ _ (by show w.heap.size ≠ w.heap.size + 1; omega)).trans k2.got, ?_, (Below.heap_setCell _ _ _ _ (by show w.heap.size + 1 + 1 ≠ w.heap.size + 1; omega)).trans k2.rd, (Below.heap_setCell _ _ _ _ (by show w.heap.size + 1 + 1 + 1 ≠ w.heap.size + 1; omega)).trans k2.ptr, below_set k2.below _ _ (Nat.le_succ _)⟩
    exact (show Boxed W2 (w.heap.size + 1) 28 .nilIface from k2.err).set .nilIface
  exact k3.returns (Kd.R_mono (Kd.R_lower r1 (by omega)) (fun _ _ => trivial)) (Kd.R_mono (Kd.R_lower r2 (by omega)) (fun _ _ => trivial)) tmps t2 t3
end Go.Proofs.Ytdkkgeibifpgiaa.Rc
