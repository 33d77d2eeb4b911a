/- What stands in memory while name.Split goes over the pieces: one structure, and how it moves; append inside a fence, with the word where the new row lies. -/
import Derived.Test.YtabgpdpdgkgmbaaDoorSplitSeq
import Derived.Maps.AppendAt
import Derived.Test.YtabgpdpdgkgmbaaDoorWWords
namespace Go.Proofs.YtabgpdpdgkgmbaaDoor.Loop
open Go.RowKit Go.Shelf Go.Proofs.YtabgpdpdgkgmbaaDoor.Bytes
set_option linter.unusedVariables false
set_option linter.unusedSimpArgs false

theorem run_append_sep {P : Program} (w : World) (base : Nat) (t ty e : TypeId) (i : TypeInfo) (z : Value) (bytes : Nat) (ht : P.underlying t = some (.slice e)) (hi : P.info? e = some i) (hz : i.zero = some z)
    (hsize : i.size = 1) (hby : i.bytes = bytes) (hzs : z.cells.size = 1) (g n cap : Nat) (xs : List Value) (hown : w.ownsRow base e 1 (.slice (some ⟨g, 0, none⟩) n cap) n xs)
    (a : Addr) (c : Nat) (x : Value) (hx : w.cell? a = some x) (ha : a.add 0 = a) (h1 : x.oneCell' = true) (h63 : n + 1 ≤ maxLen) (hbytes : (n + 1) * bytes ≤ 140737488355328) (hbase : base ≤ w.heap.size) :
    ∃ g' cap' w', (Builtin.append_ #[t, t] ty #[.slice (some ⟨g, 0, none⟩) n cap, .slice (some a) 1 c]).run P w = .ok (.slice (some ⟨g', 0, none⟩) (n + 1) cap') w' ∧
      w'.ownsRow base e 1 (.slice (some ⟨g', 0, none⟩) (n + 1) cap') (n + 1) (xs ++ [x]) ∧ w.grownBy w' (some g) ∧ (g' = g ∨ w.heap.size ≤ g') := by
  have hnews : ∀ j u, [x][j]? = some u → w.cell? (a.add j) = some u := by
    intro j u hu
    match j, hu with
    | 0, hu => rw [ha, hx]; simpa using hu
    | j + 1, hu => simp at hu
  obtain ⟨v', w', hr, h2, h3, _⟩ := run_append_own (P := P) w base t ty e i z 1 bytes ht hi hz hsize hby hzs (by decide) _ n xs hown a 1 c [x] rfl hnews (by simpa using h1) h63 hbytes hbase
  have hown' := hown
  rcases hown.2 with ⟨e0, _⟩ | ⟨g0, cap0, cur, e0, hbg, hg, hnc, hcm, hcs, htake⟩
  · cases e0
  · cases e0
    by_cases hroom : n + 1 ≤ cap
    · have hr2 := run_append_room (P := P) w t ty e i ht hi g n cap cur hg a 1 c [x] (by rw [hsize]; rfl) hnews (by simpa using h1) hroom (by rw [hcs, hsize]; simpa using hroom)
      have e1 := hr2.symm.trans hr
      injection e1 with e1 e2
      subst e1
      exact ⟨g, cap, w', hr, h2, h3, .inl rfl⟩
    · have hr2 := run_append_grow (P := P) w t ty e i z ht hi hz ⟨g, 0, none⟩ n cap xs (by rw [hsize]; exact hown.1) (hown.cells (g := g) rfl) a 1 c [x] (by rw [hsize]; rfl) hnews (by omega) (by simp only [maxLen] at h63; omega)
        (growslice_fits (by omega) (by rw [hby]; exact hbytes))
      have e1 := hr2.symm.trans hr
      injection e1 with e1 e2
      subst e1
      exact ⟨w.heap.size, _, w', hr, h2, h3, .inr (Nat.le_refl _)⟩

theorem append_sep {F : Fence} {n : Nat} {P : Program} (w : World) {ops : Array Oper} {rest : List Oper} {o : Oper} {a : Act} {Q : Exit → Act → World → Prop}
    (hg : o.guard = none) (s x : Operand) (t : TypeId) (hop : o.op = Op.call { callee := Callee.builtin Builtin.append, args := #[s, x], argTypes := #[t, t] })
    (base : Nat) (e : TypeId) (i : TypeInfo) (z : Value) (bytes : Nat) (ht : P.underlying t = some (.slice e)) (hi : P.info? e = some i) (hz : i.zero = some z)
    (hsize : i.size = 1) (hby : i.bytes = bytes) (hzs : z.cells.size = 1) (g k cap : Nat) (xs : List Value) (hs : a.eval s = .slice (some ⟨g, 0, none⟩) k cap) (hown : w.ownsRow base e 1 (.slice (some ⟨g, 0, none⟩) k cap) k xs)
    (ad : Addr) (c : Nat) (y : Value) (hx : a.eval x = .slice (some ad) 1 c) (hy : w.cell? ad = some y) (ha : ad.add 0 = ad) (h1 : y.oneCell' = true) (h63 : k + 1 ≤ maxLen) (hbytes : (k + 1) * bytes ≤ 140737488355328) (hbase : base ≤ w.heap.size)
    (hK : ∀ g' cap' w', w'.ownsRow base e 1 (.slice (some ⟨g', 0, none⟩) (k + 1) cap') (k + 1) (xs ++ [y]) → w.grownBy w' (some g) → (g' = g ∨ w.heap.size ≤ g') → wpListIn F n P ops Q rest (a.put o.dst (.slice (some ⟨g', 0, none⟩) (k + 1) cap')) w') :
    wpListIn F n P ops Q (o :: rest) a w := by
  refine wpListIn_plain hg fun K hK' => ?_
  obtain ⟨g', cap', w', hrun, r1, r2, r3⟩ := run_append_sep (P := P) w base t o.type e i z bytes ht hi hz hsize hby hzs g k cap xs hown ad c y hy ha h1 h63 hbytes hbase
  unfold Oper.wpIn
  refine ⟨?_, ?_⟩
  · simp [Oper.about, hop, resolve, Target.leads, Sem.run_pure]
  · rw [Oper.semAt_plain F _ _ (by rw [hop]; intro c hc'; cases hc')]
    simp [execOp, hop, resolve, invoke, builtin, hs, hx, hrun, Result.andThen]
    exact hK' _ _ (hK g' cap' w' r1 r2 r3)

/-- The place behind these pieces. -/
def atOf : List ByteArray → Int := List.foldl (fun a x => wrap64 (a + wrap64 ((x.size : Int) + 1))) 0
theorem atOf_snoc (pre : List ByteArray) (x : ByteArray) : atOf (pre ++ [x]) = wrap64 (atOf pre + wrap64 ((x.size : Int) + 1)) := by simp [atOf]

/-- Split's own boxes, the names so far being pre: n0: the result; n0 + 1: the fault; n0 + 2: the first row; n0 + 3: names; n0 + 4: at; from n0 + 5 the iterator's three. -/
structure NS (n0 : Nat) (w : World) (pre : List ByteArray) (W : World) : Prop where
  r : Boxed W n0 23 (.slice none 0 0)
  f : W.heap[n0 + 1]? = some (.cells #[.int .i64 0, .int .i64 0] 26 (0, 0))
  row : ∃ g cap, Boxed W (n0 + 3) 23 (.slice (some ⟨g, 0, none⟩) pre.length cap) ∧ W.ownsRow n0 9 1 (.slice (some ⟨g, 0, none⟩) pre.length cap) pre.length (pre.map Value.string) ∧ (g = n0 + 2 ∨ n0 + 8 ≤ g)
  at_ : Boxed W (n0 + 4) 3 (.int .i64 (atOf pre))
  below : Below n0 w W
  size : n0 + 8 ≤ W.heap.size
theorem NS.move {n0 : Nat} {w W W' : World} {pre : List ByteArray} (h : NS n0 w pre W) (hs : ∀ k, k < W.heap.size → (k < n0 + 5 ∨ (n0 + 8 ≤ k ∧ ∃ cs, W.heap[k]? = some (.cells cs 9 (0, 0)))) → W'.heap[k]? = W.heap[k]?)
    (hB : Below n0 w W') (hz : W.heap.size ≤ W'.heap.size) : NS n0 w pre W' := by
  have hz8 := h.size
  obtain ⟨g, cap, hb, ho, hg⟩ := h.row
  refine ⟨(hs _ (by omega) (.inl (by omega))).trans h.r, (hs _ (by omega) (.inl (by omega))).trans h.f, ⟨g, cap, (hs _ (by omega) (.inl (by omega))).trans hb, ?_, hg⟩, (hs _ (by omega) (.inl (by omega))).trans h.at_, hB, by omega⟩
  rcases ho.2 with ⟨e0, _⟩ | ⟨g0, cap0, cur, e0, hbg, hgg, hrest⟩
  · cases e0
  · cases e0
    refine ⟨ho.1, .inr ⟨g, cap, cur, rfl, hbg, (hs g (Array.getElem?_eq_some_iff.1 hgg).1 ?_).trans hgg, hrest⟩⟩
    rcases hg with e | e
    · exact .inl (by omega)
    · exact .inr ⟨e, cur, hgg⟩
/-- Another call has been made: all that lay lies as it lay. -/
theorem NS.call {n0 : Nat} {w W W' : World} {pre : List ByteArray} (h : NS n0 w pre W) (hb : Below W.heap.size W W') : NS n0 w pre W' :=
  h.move (fun k hk _ => hb.block k hk) (h.below.trans (hb.mono (by have := h.size; omega))) hb.size
/-- The iterator has turned its own box. -/
theorem NS.turn {n0 : Nat} {w W W' : World} {pre : List ByteArray} (h : NS n0 w pre W) (ht : SeqTurn (n0 + 5) W W') : NS n0 w pre W' := by
  obtain ⟨v, rfl⟩ := ht
  exact h.move (fun k hk hc => Below.heap_setCell _ _ _ k (by show k ≠ n0 + 5; omega)) (h.below.setCell (p := ⟨n0 + 5, 0, none⟩) (by show n0 ≤ n0 + 5; omega) _) (KeepsWalks.setCell W _ v).size
/-- The loop's own book-keeping. -/
theorem NS.own {n0 : Nat} {w W W' : World} {pre : List ByteArray} {row : Option Nat} (h : NS n0 w pre W) (hg : W.grownBy W' row) (hr : ∀ r, row = some r → n0 + 8 ≤ r ∧ ∃ o : Obj, W.heap[r]? = some o ∧ o.isCells = false) : NS n0 w pre W' := by
  refine h.move (fun k hk hc => hg.block k hk fun e => ?_) (h.below.grown hg (by have := h.size; omega) (fun k e => by have := (hr k e).1; omega)) hg.size
  obtain ⟨h8, o, ho, hcl⟩ := hr k e.symm
  rcases hc with hc | ⟨_, cs, hcs⟩
  · omega
  · rw [hcs] at ho
    cases ho
    cases hcl
theorem keeps_of_below {W W' : World} (hb : Below W.heap.size W W') : KeepsOthers W W' := ⟨hb.size, fun k o hk _ => (hb.block k (Array.getElem?_eq_some_iff.1 hk).1).trans hk⟩
theorem SeqKeep.call {b : Nat} {W W' : World} (hb : Below W.heap.size W W') (h : b + 3 ≤ W.heap.size) : SeqKeep b W W' := fun k _ h2 => hb.block k (by omega)

/-- names = append(names, s); at += len(s) + 1. -/
theorem NS.took {n0 : Nat} {w W w1 : World} {pre : List ByteArray} {x : ByteArray} {g cap g' cap' : Nat} {tmp : Obj} (h : NS n0 w pre W)
    (hb : Boxed W (n0 + 3) 23 (.slice (some ⟨g, 0, none⟩) pre.length cap)) (ho : W.ownsRow n0 9 1 (.slice (some ⟨g, 0, none⟩) pre.length cap) pre.length (pre.map Value.string)) (hg : g = n0 + 2 ∨ n0 + 8 ≤ g)
    (ho' : w1.ownsRow n0 9 1 (.slice (some ⟨g', 0, none⟩) (pre.length + 1) cap') (pre.length + 1) (pre.map Value.string ++ [.string x])) (hgr : (W.alloc tmp).grownBy w1 (some g)) (hg' : g' = g ∨ (W.alloc tmp).heap.size ≤ g') :
    Boxed w1 (n0 + 3) 23 (.slice (some ⟨g, 0, none⟩) pre.length cap) ∧ Boxed (w1.setCell ⟨n0 + 3, 0, none⟩ (.slice (some ⟨g', 0, none⟩) (pre.length + 1) cap')) (n0 + 4) 3 (.int .i64 (atOf pre)) ∧
      ∀ y, y = atOf (pre ++ [x]) → NS n0 w (pre ++ [x]) ((w1.setCell ⟨n0 + 3, 0, none⟩ (.slice (some ⟨g', 0, none⟩) (pre.length + 1) cap')).setCell ⟨n0 + 4, 0, none⟩ (.int .i64 y)) ∧
        KeepsOthers W ((w1.setCell ⟨n0 + 3, 0, none⟩ (.slice (some ⟨g', 0, none⟩) (pre.length + 1) cap')).setCell ⟨n0 + 4, 0, none⟩ (.int .i64 y)) ∧
        SeqKeep (n0 + 5) W ((w1.setCell ⟨n0 + 3, 0, none⟩ (.slice (some ⟨g', 0, none⟩) (pre.length + 1) cap')).setCell ⟨n0 + 4, 0, none⟩ (.int .i64 y)) := by
  have hz := h.size
  have hgb : (Value.slice (some ⟨g, 0, none⟩) pre.length cap).ownBlock = some g := rfl
  obtain ⟨a1, a2, a3, a4, a5⟩ := hb.appended (by decide) ho (by omega) (by omega) ho' (by rw [hgb]; exact hgr)
  have nb : ∀ {B t v}, Boxed W B t v → B ≠ g → Boxed w1 B t v := fun hB hne => (hB.alloc tmp).kept hgr (by simpa using hne)
  have hat : Boxed w1 (n0 + 4) 3 (.int .i64 (atOf pre)) := nb h.at_ (by omega)
  refine ⟨a1, hat.other (by omega) _, fun y hy => ?_⟩
  subst hy
  have o1 : Boxed w1 n0 23 (.slice none 0 0) := nb h.r (by omega)
  have of : w1.heap[n0 + 1]? = some (.cells #[.int .i64 0, .int .i64 0] 26 (0, 0)) :=
    (hgr.block _ (by simp; omega) (by simp; omega)).trans ((World.grownBy_alloc W tmp none).block _ (by omega) (by simp) |>.trans h.f)
  refine ⟨⟨(o1.other (by omega) _).other (by omega) _, ?_, ⟨g', cap', ?_, ?_, ?_⟩, (hat.other (by omega) _).set _, ?_, ?_⟩, a4.trans (KeepsOthers.setCell _ _ _), ?_⟩
  · rw [Below.heap_setCell _ _ _ _ (by show n0 + 1 ≠ n0 + 4; omega), Below.heap_setCell _ _ _ _ (by show n0 + 1 ≠ n0 + 3; omega)]
    exact of
  · have := a2.other (B' := n0 + 4) (by omega) (.int .i64 (atOf (pre ++ [x])))
    simpa using this
  · have := a3.kept (grownBy_setCell' _ (n0 + 4) (.int .i64 (atOf (pre ++ [x])))) (.inr (by
      have : g' ≠ n0 + 4 := by
        simp only [World.size_alloc] at hg'
        omega
      simpa [Value.ownBlock] using this))
    simpa using this
  · simp only [World.size_alloc] at hg'
    omega
  · exact (h.below.trans a5).setCell (p := ⟨n0 + 4, 0, none⟩) (by show n0 ≤ n0 + 4; omega) _
  · have s1 := a5.size
    have s2 := (KeepsWalks.setCell (w1.setCell ⟨n0 + 3, 0, none⟩ (.slice (some ⟨g', 0, none⟩) (pre.length + 1) cap')) ⟨n0 + 4, 0, none⟩ (.int .i64 (atOf (pre ++ [x])))).size
    omega
  · intro k h1 h2
    rw [Below.heap_setCell _ _ _ _ (by show k ≠ n0 + 4; omega), Below.heap_setCell _ _ _ _ (by show k ≠ n0 + 3; omega), hgr.block k (by simp; omega) (by simp; omega)]
    exact (World.grownBy_alloc W tmp none).block k (by omega) (by simp)
end Go.Proofs.YtabgpdpdgkgmbaaDoor.Loop
