/- A row of strings in memory, cell by cell. -/
import Derived.Test.YtbllmpfdhcbkpaaDoorQ0
import Derived.Test.YtbllmpfdhcbkpaaDoorBytes
import Derived.RangeFuncBox
namespace Go.Proofs.YtbllmpfdhcbkpaaDoor.Q
open Go.RowKit Go.Proofs.YtbllmpfdhcbkpaaDoorW.PrintWords Go.Proofs.YtbllmpfdhcbkpaaDoorW.PrintLast Go.Proofs.YtbllmpfdhcbkpaaDoorW.PrintMore Go.Proofs.YtbllmpfdhcbkpaaDoor.Bytes
set_option linter.unusedVariables false
set_option linter.unusedSimpArgs false

/-- Block g holds these strings, and room behind them. -/
structure SQ (W : World) (g cap : Nat) (xs : List ByteArray) : Prop where
  row : ∃ cur : Array Value, W.heap[g]? = some (.cells cur 9 (0, 0)) ∧ cur.size = cap ∧ cur.toList.take xs.length = xs.map Value.string
  len : xs.length ≤ cap
  capm : cap ≤ maxLen
section
variable {W W' : World} {g cap : Nat} {xs : List ByteArray}
theorem SQ.lt (h : SQ W g cap xs) : g < W.heap.size := by
  obtain ⟨cur, hg, _⟩ := h.row
  exact (Array.getElem?_eq_some_iff.1 hg).1
theorem SQ.cell (h : SQ W g cap xs) (i : Nat) (x : ByteArray) (hi : xs[i]? = some x) : W.cell? ⟨g, i, none⟩ = some (.string x) := by
  obtain ⟨cur, hg, hs, ht⟩ := h.row
  have hlt : i < xs.length := (List.getElem?_eq_some_iff.1 hi).1
  have : (xs.map Value.string)[i]? = some (.string x) := by rw [List.getElem?_map, hi]; rfl
  rw [← ht, List.getElem?_take, if_pos hlt] at this
  simpa [World.cell?, hg] using this
theorem SQ.fro (h : SQ W g cap xs) (i : Nat) : W.frozen? ⟨g, i, none⟩ = false := by
  obtain ⟨cur, hg, _⟩ := h.row
  simp [World.frozen?, hg]
theorem SQ.kept (h : SQ W g cap xs) (e : W'.heap[g]? = W.heap[g]?) : SQ W' g cap xs := by
  obtain ⟨cur, hg, hs, ht⟩ := h.row
  exact ⟨⟨cur, e.trans hg, hs, ht⟩, h.len, h.capm⟩
theorem SQ.below (h : SQ W g cap xs) (hb : Below W.heap.size W W') : SQ W' g cap xs := h.kept (hb.block g h.lt)
theorem SQ.set (h : SQ W g cap xs) (i : Nat) (x : ByteArray) : SQ (W.setCell ⟨g, i, none⟩ (.string x)) g cap (xs.set i x) := by
  obtain ⟨cur, hg, hs, ht⟩ := h.row
  refine ⟨⟨cur.setIfInBounds i (.string x), by simp [World.setCell, Array.getElem?_modify, hg], by simpa using hs, ?_⟩, by rw [List.length_set]; exact h.len, h.capm⟩
  rw [Array.toList_setIfInBounds, List.length_set, List.take_set, ht, List.map_set]
theorem SQ.reads (h : SQ W g cap xs) (n : Nat) (hn : n ≤ xs.length) : Kd.C Kd.string W (some ⟨g, 0, none⟩) n (xs.take n) := by
  have hm := h.len
  have hc := h.capm
  refine ⟨by rw [List.length_take]; omega, by simp only [maxLen] at hc; omega, fun _ => ⟨_, rfl, fun j p hj => ⟨[.string p], rfl, rfl, fun i u hu => ?_⟩⟩⟩
  have hjx : xs[j]? = some p := by
    rw [List.getElem?_take] at hj
    split at hj
    · exact hj
    · cases hj
  have hsz : Kd.string.sz = 1 := rfl
  match i, hu with
  | 0, hu =>
    have hu' : u = .string p := by simpa using hu.symm
    subst hu'
    have hadd : (⟨g, 0, none⟩ : Addr).add (j * Kd.string.sz + 0) = ⟨g, j, none⟩ := by
      rw [hsz, Nat.mul_one, Nat.add_zero]; unfold Addr.add; split <;> simp_all
    rw [hadd]
    exact h.cell j p hjx
  | i + 1, hu => simp at hu
theorem SQ.all (h : SQ W g cap xs) : Kd.C Kd.string W (some ⟨g, 0, none⟩) xs.length xs := by
  have := h.reads xs.length (Nat.le_refl _)
  rwa [List.take_length] at this
theorem reps_strings (P : Nat → Prop) (W : World) (base : Nat) (xs : List ByteArray) : Reps (Kd.string.M W base P) 1 xs (xs.map Value.string) := by
  refine ⟨by simp, fun j p hj => ?_⟩
  obtain ⟨hlt, e⟩ := List.getElem?_eq_some_iff.1 hj
  subst e
  simp [Kd.string, Kd.scalar, List.drop_eq_getElem_cons, hlt]
theorem strings_reps {R : Nat → Prop} {base : Nat} {inner : List Value} (h : Reps (Kd.string.M W base R) 1 xs inner) : inner = xs.map Value.string := by
  have hl : inner.length = xs.length := by simpa using h.1
  apply List.ext_getElem
  · simpa using hl
  · intro j h1 h2
    have hj : j < xs.length := by omega
    have := h.2 j _ (List.getElem?_eq_getElem hj)
    have h3 : (inner.drop (j * 1)).take 1 = [.string xs[j]] := this
    rw [Nat.mul_one, List.drop_eq_getElem_cons h1, List.take_succ_cons, List.take_zero] at h3
    rw [(List.cons.inj h3).1, List.getElem_map]
theorem SQ.of_own {base n : Nat} (h : W.ownsRow base 9 1 (.slice (some ⟨g, 0, none⟩) n cap) n (xs.map Value.string)) (hn : xs.length = n) : SQ W g cap xs ∧ base ≤ g := by
  rcases h.2 with ⟨e, _⟩ | ⟨g', cap', cur, e, hb, hg, hnc, hcm, hcs, ht⟩
  · cases e
  · cases e
    exact ⟨⟨⟨cur, hg, by simpa using hcs, by rw [hn]; simpa using ht⟩, by omega, hcm⟩, hb⟩
theorem SQ.own {base : Nat} (h : SQ W g cap xs) (hb : base ≤ g) : W.ownsRow base 9 1 (.slice (some ⟨g, 0, none⟩) xs.length cap) xs.length (xs.map Value.string) := by
  obtain ⟨cur, hg, hs, ht⟩ := h.row
  exact ⟨by simp, .inr ⟨g, cap, cur, rfl, hb, hg, h.len, h.capm, by simpa using hs, by simpa using ht⟩⟩
theorem SQ.toR {base : Nat} (h : SQ W g cap xs) (hb : base ≤ g) : Kd.R Kd.string 9 W base (fun _ => True) (.slice (some ⟨g, 0, none⟩) xs.length cap) xs :=
  ⟨fun _ _ => trivial, _, h.own hb, reps_strings _ _ _ _⟩
/-- A row of one's own: nil, or a block. -/
theorem SQ.of_R {base : Nat} {ok : Nat → Prop} {v : Value} (h : Kd.R Kd.string 9 W base ok v xs) : (v = .slice none 0 0 ∧ xs = []) ∨ ∃ g cap, v = .slice (some ⟨g, 0, none⟩) xs.length cap ∧ SQ W g cap xs ∧ base ≤ g ∧ ok g := by
  obtain ⟨hok, inner, ho, hr⟩ := h
  have e := strings_reps hr
  subst e
  have ho' := ho
  rcases ho.2 with ⟨e, hn⟩ | ⟨g, cap, cur, rfl, _⟩
  · exact .inl ⟨e, List.eq_nil_of_length_eq_zero hn⟩
  · obtain ⟨h1, h2⟩ := SQ.of_own ho' rfl
    exact .inr ⟨g, cap, rfl, h1, h2, hok g rfl⟩
end
section
variable {P : Program} {ops : Array Oper} {rest : List Oper} {o : Oper} {a : Act} {Q : Exit → Act → World → Prop}
/-- make([]string, n). -/
theorem make_sq {w0 W : World} (base : Nat) (hgd : o.guard = none) {N : Tmp} (hd : o.dst = some N) (t : TypeId) (x y : Operand) (ho : o.op = .makeSlice t x y) (n : Nat) (hx : a.eval x = .int .i64 (n : Int)) (hy : a.eval y = .int .i64 (n : Int))
    (ht : P.underlying t = some (.slice 9)) (hinfo : (P.info? 9).map (fun i => (i.zero, i.size, i.bytes)) = some (some (.string ⟨#[]⟩), 1, 16)) (h0 : 0 < n) (hl : n * 16 ≤ 281474976710656) (HB : Below base w0 W) (hbase : base ≤ W.heap.size)
    (h : ∀ g cap w1, SQ w1 g cap (List.replicate n (⟨#[]⟩ : ByteArray)) → base ≤ g → Below base w0 w1 → W.grownBy w1 none → W.heap.size ≤ g → wpList P ops Q rest (a.put o.dst (.slice (some ⟨g, 0, none⟩) n cap)) w1) : wpList P ops Q (o :: rest) a W := by
  refine Kd.R_make Kd.string (w0 := w0) base 9 hgd hd t x y ho (n : Int) hx hy ht (.string ⟨#[]⟩) 16 hinfo rfl (by decide) (by decide) (⟨#[]⟩ : ByteArray) (ok := fun _ => True) (okp := fun _ => True) rfl (fun _ _ => trivial) trivial (by omega) (by simpa using hl) HB hbase ?_
  intro v1 w1 hR hB hg hv
  rcases SQ.of_R hR with ⟨_, e⟩ | ⟨g, cap, rfl, hQ, hb, _⟩
  · have := congrArg List.length e
    simp at this
    omega
  · obtain ⟨b, e1, e2⟩ := hv
    have e3 : g = b := by simpa [Value.ownBlock] using e1
    rw [List.length_replicate, Int.toNat_natCast]
    rw [Int.toNat_natCast] at hQ
    exact h g cap w1 hQ hb hB hg (by omega)
/-- copy(q, s), q a row of strings of one's own with room for s. -/
theorem copy_sq {w0 W : World} (base : Nat) (hgd : o.guard = none) (x y : Operand) (t t' : TypeId) (ho : o.op = .call { callee := .builtin .copy, args := #[x, y], argTypes := #[t, t'] })
    (g N cap m c : Nat) (A : Option Addr) (xs ys : List ByteArray) (hx : a.eval x = .slice (some ⟨g, 0, none⟩) N cap) (hy : a.eval y = .slice A m c) (ht : P.underlying t = some (.slice 9)) (hinfo : (P.info? 9).map (·.size) = some 1)
    (hq : SQ W g cap xs) (hl : xs.length = N) (hC : Kd.C Kd.string W A m ys) (hm : m ≤ N) (hb : base ≤ g) (HB : Below base w0 W)
    (h : ∀ w1, SQ w1 g cap (ys ++ xs.drop m) → Below base w0 w1 → W.grownBy w1 (some g) → wpList P ops Q rest (a.put o.dst (.int .i64 (m : Int))) w1) : wpList P ops Q (o :: rest) a W := by
  subst hl
  have hbs : base ≤ W.heap.size := by have := hq.lt; omega
  have hym : ys.length = m := hC.1
  refine Kd.R_copy (enc := Value.string) (⟨#[]⟩ : ByteArray) (w0 := w0) base hgd x y t t' 9 ho ht hinfo _ xs ys A m c (fun _ => True) hx hy (hq.toR hb) hC HB hbs ?_
  intro w1 hR hB1 hg1
  have e1 : min m xs.length = m := Nat.min_eq_left hm
  rw [e1]
  rw [e1, List.take_of_length_le (by omega)] at hR
  rcases SQ.of_R hR with ⟨e, _⟩ | ⟨g', cap', e, hQ, _⟩
  · cases e
  · simp only [Value.slice.injEq, Option.some.injEq, Addr.mk.injEq] at e
    obtain ⟨⟨rfl, _⟩, _, rfl⟩ := e
    exact h w1 hQ hB1 hg1
end
theorem below_alloc1 {W V : World} {o : Obj} (h : W.alloc o = V) : Below W.heap.size W V := by
  rw [← h]
  exact (Below.refl _ W).alloc (Nat.le_refl _) o
theorem empty_R {W V : World} (h : W.alloc (.cells #[] 9) = V) : Kd.R Kd.string 9 V W.heap.size (fun _ => True) (.slice (some ⟨W.heap.size, 0, none⟩) 0 0) [] := by
  have h0 := heap_alloc_new W (.cells #[] 9)
  rw [h] at h0
  exact SQ.toR (W := V) (g := W.heap.size) (cap := 0) (xs := []) ⟨⟨#[], h0, rfl, rfl⟩, Nat.le_refl _, by decide⟩ (Nat.le_refl _)
/-- The row of NameKeeps: the names; j gaps; the rest as it was made. -/
def fillG (l : List ByteArray) (j : Nat) : List ByteArray := l ++ (List.replicate j (⟨#[103, 97, 112]⟩ : ByteArray) ++ List.replicate (4 - j) (⟨#[]⟩ : ByteArray))
theorem fillG_len (l : List ByteArray) (j : Nat) (h : j ≤ 4) : (fillG l j).length = l.length + 4 := by simp [fillG]; omega
theorem fillG_zero (l : List ByteArray) : l ++ (List.replicate (l.length + 4) (⟨#[]⟩ : ByteArray)).drop l.length = fillG l 0 := by
  simp [fillG]
theorem fillG_set (l : List ByteArray) (j : Nat) (h : j < 4) : (fillG l j).set (l.length + j) (⟨#[103, 97, 112]⟩ : ByteArray) = fillG l (j + 1) := by
  unfold fillG
  rw [List.set_append_right _ _ (by omega), Nat.add_sub_cancel_left]
  congr 1
  match j, h with
  | 0, _ => rfl
  | 1, _ => rfl
  | 2, _ => rfl
  | 3, _ => rfl
theorem fillG_take (l : List ByteArray) (j : Nat) : (fillG l j).take l.length = l := by simp [fillG]
theorem fillG_low (l : List ByteArray) (i : Nat) (h : i < l.length) : (fillG l 4)[i]? = some l[i] := by
  unfold fillG
  rw [List.getElem?_append_left h, List.getElem?_eq_getElem h]
theorem fillG_high (l : List ByteArray) (i : Nat) (h : l.length ≤ i) (h2 : i < l.length + 4) : (fillG l 4)[i]? = some (⟨#[103, 97, 112]⟩ : ByteArray) := by
  unfold fillG
  rw [List.getElem?_append_right h]
  have : i - l.length < 4 := by omega
  match i - l.length, this with
  | 0, _ => rfl
  | 1, _ => rfl
  | 2, _ => rfl
  | 3, _ => rfl
/-- The names marked so far. -/
def markL (l : List ByteArray) (i : Nat) : List ByteArray := List.replicate i (⟨#[109, 97, 114, 107, 101, 100]⟩ : ByteArray) ++ l.drop i
theorem markL_len (l : List ByteArray) (i : Nat) (h : i ≤ l.length) : (markL l i).length = l.length := by simp [markL]; omega
theorem markL_set (l : List ByteArray) (i : Nat) (h : i < l.length) : (markL l i).set i (⟨#[109, 97, 114, 107, 101, 100]⟩ : ByteArray) = markL l (i + 1) := by
  unfold markL
  rw [List.set_append_right _ _ (by simp), List.length_replicate, Nat.sub_self, List.drop_eq_getElem_cons h, List.set_cons_zero, List.replicate_succ', List.append_assoc]
  rfl
theorem mark3_len (l : List ByteArray) : (markL l l.length ++ [(⟨#[120]⟩ : ByteArray), ⟨#[121]⟩, ⟨#[122]⟩]).length = l.length + 3 := by
  rw [List.length_append, markL_len _ _ (Nat.le_refl _)]
  rfl
theorem lit3 {W V : World} (h : W.alloc (.cells #[.string ⟨#[120]⟩, .string ⟨#[121]⟩, .string ⟨#[122]⟩] 9) = V) : Kd.C Kd.string V (some ⟨W.heap.size, 0, none⟩) 3 [(⟨#[120]⟩ : ByteArray), ⟨#[121]⟩, ⟨#[122]⟩] := by
  have h0 := heap_alloc_new W (.cells #[.string ⟨#[120]⟩, .string ⟨#[121]⟩, .string ⟨#[122]⟩] 9)
  rw [h] at h0
  exact SQ.all (W := V) (g := W.heap.size) (cap := 3) (xs := [(⟨#[120]⟩ : ByteArray), ⟨#[121]⟩, ⟨#[122]⟩]) ⟨⟨_, h0, rfl, rfl⟩, by decide, by decide⟩
theorem row_of {W : World} {base : Nat} {ok : Nat → Prop} {v : Value} {xs : List ByteArray} (h : Kd.R Kd.string 9 W base ok v xs) (hn : 0 < xs.length) : ∃ g cap, v = .slice (some ⟨g, 0, none⟩) xs.length cap ∧ SQ W g cap xs ∧ base ≤ g := by
  rcases SQ.of_R h with ⟨_, e⟩ | ⟨g, cap, e, hQ, hb, _⟩
  · rw [e] at hn; simp at hn
  · exact ⟨g, cap, e, hQ, hb⟩
end Go.Proofs.YtbllmpfdhcbkpaaDoor.Q
