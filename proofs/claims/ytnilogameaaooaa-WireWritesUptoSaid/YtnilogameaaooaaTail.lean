/- A row of bytes of one's own of which what lies behind it may be frozen: '[]byte(s)' and what is appended to it. -/
import Derived.Test.YtnilogameaaooaaWWords
import Derived.Test.YtnilogameaaooaaWLast
import Derived.Test.YtnilogameaaooaaWMore
import Derived.ArgAppend
import Derived.Lib.ConvBytes
namespace Go.Proofs.Ytnilogameaaooaa.Tail
open Go.RowKit Go.Proofs.YtnilogameaaooaaW.PrintWords Go.Proofs.YtnilogameaaooaaW.PrintLast Go.Proofs.YtnilogameaaooaaW.PrintMore
set_option linter.unusedVariables false
set_option linter.unusedSimpArgs false

/-- The bytes of a text as numbers. -/
def numsOf (s : ByteArray) : List Int := s.data.toList.map fun b => (b.toNat : Int)
theorem numsOf_len (s : ByteArray) : (numsOf s).length = s.size := by simp [numsOf]
def OwnT (w : World) (base : Nat) (e : TypeId) (v : Value) (bs : List Int) : Prop :=
  ∃ g cap cur fz, v = .slice (some ⟨g, 0, none⟩) bs.length cap ∧ base ≤ g ∧ w.heap[g]? = some (.cells cur e fz) ∧ (fz.2 = 0 ∨ cap ≤ fz.1) ∧ bs.length ≤ cap ∧ cap ≤ maxLen ∧ cur.size = cap ∧ cur.toList.take bs.length = nums .u8 bs
section
variable {w w1 : World} {base : Nat} {e : TypeId} {v : Value} {bs : List Int}
theorem OwnT.kept (h : OwnT w base e v bs) {row : Option Nat} (hg : w.grownBy w1 row) (hne : v.ownBlock ≠ row) : OwnT w1 base e v bs := by
  obtain ⟨g, cap, cur, fz, rfl, hb, hgg, r⟩ := h
  exact ⟨g, cap, cur, fz, rfl, hb, (hg.block g (Array.getElem?_eq_some_iff.1 hgg).1 (by simpa [Value.ownBlock] using hne)).trans hgg, r⟩
theorem OwnT.alloc (h : OwnT w base e v bs) (o : Obj) : OwnT (w.alloc o) base e v bs := by
  refine h.kept (World.grownBy_alloc w o none) ?_
  obtain ⟨g, cap, cur, fz, rfl, _⟩ := h
  simp [Value.ownBlock]
theorem OwnT.lower (h : OwnT w base e v bs) {base' : Nat} (hb : base' ≤ base) : OwnT w base' e v bs := by
  obtain ⟨g, cap, cur, fz, rfl, hb', r⟩ := h
  exact ⟨g, cap, cur, fz, rfl, Nat.le_trans hb hb', r⟩
theorem OwnT.reads (h : OwnT w base e v bs) : ∃ A c, v = .slice A bs.length c ∧ ReadsInt w .u8 A bs.length bs := by
  obtain ⟨g, cap, cur, fz, rfl, hb, hgg, _, hl, hm, hc, ht⟩ := h
  refine ⟨_, _, rfl, rfl, by simp only [maxLen] at hm; omega, fun _ => ⟨_, rfl, fun j hj => ?_⟩⟩
  have hadd : (⟨g, 0, none⟩ : Addr).add j = ⟨g, j, none⟩ := by unfold Addr.add; split <;> simp_all
  rw [hadd, cell_of_row w g j cur e fz hgg]
  have h1 : (cur.toList.take bs.length)[j]? = cur[j]? := by rw [List.getElem?_take, if_pos hj]; simp
  rw [← h1, ht]
  simp [nums, List.getD_eq_getElem?_getD, List.getElem?_eq_getElem hj]
theorem OwnT.of_own {B n : Nat} {xs : List Value} (h : w.ownsRow B e 1 v n xs) (hn : n = bs.length) (hx : xs = nums .u8 bs) (h0 : 0 < bs.length) (hb : base ≤ B) : OwnT w base e v bs := by
  rcases h.2 with ⟨_, he⟩ | ⟨g, cap, cur, rfl, hbb, hgg, hnc, hcm, hcs, ht⟩
  · omega
  · subst hn hx
    exact ⟨g, cap, cur, (0, 0), rfl, Nat.le_trans hb hbb, hgg, .inl rfl, hnc, hcm, by simpa using hcs, by simpa using ht⟩
end
theorem OwnT.string {P : Program} {w : World} {base src dst e : Nat} {v : Value} {bs : List Int} (hs : P.underlying src = some (.slice e)) (he : P.underlying e = some (.int .u8)) (hd : P.underlying dst = some .string) (h : OwnT w base e v bs) :
    (convert src dst v).run P w = .ok (.string (strOfNums bs)) w := by
  obtain ⟨A, c, rfl, hr⟩ := h.reads
  exact string_of_reads hs he hd hr
section
variable {P : Program} {ops : Array Oper} {rest : List Oper} {o : Oper} {a : Act} {Q : Exit → Act → World → Prop}
/-- '[]byte(s)'. -/
theorem T_conv {w0 W : World} (base e : Nat) (hgd : o.guard = none) {N : Tmp} (hd : o.dst = some N) (src t : TypeId) (x : Operand) (ho : o.op = .convert src t x) (s : ByteArray) (hx : a.eval x = .string s)
    (hsrc : P.underlying src = some .string) (ht : P.underlying t = some (.slice e)) (he : P.underlying e = some (.int .u8)) (hm : s.size ≤ maxLen) (HB : Below base w0 W) (hbase : base ≤ W.heap.size)
    (h : ∀ v1 w1, OwnT w1 base e v1 (numsOf s) → Below base w0 w1 → wpList P ops Q rest (a.put o.dst v1) w1) : wpList P ops Q (o :: rest) a W := by
  have hr := Lib.run_convert_string_bytes (P := P) W src t e s hsrc ht he
  have hge := grownCap_ge W s.size 0 e
  have hcm : grownCap W s.size 0 e ≤ maxLen := grownCap_le_maxLen W s.size 0 e hm
  have hsz : (Lib.bytesCells W e s).size = grownCap W s.size 0 e := by
    simp only [Lib.bytesCells, Array.size_append, Array.size_map, Array.size_replicate]
    have : s.data.size = s.size := rfl
    omega
  refine Kd.event_run hgd (w1 := Lib.bytesWorld W e s) (v := .slice (some ⟨W.heap.size, 0, none⟩) s.size (grownCap W s.size 0 e)) ?_ (h _ _ ⟨W.heap.size, grownCap W s.size 0 e, Lib.bytesCells W e s, _, by rw [numsOf_len], hbase, Lib.bytesWorld_at_new W e s, .inr (by simp only; omega), by rw [numsOf_len]; exact hge, hcm, hsz, ?_⟩ ?_)
  · simp [execOp, ho, hx, hr]
  · rw [numsOf_len]
    simp only [Lib.bytesCells, Array.toList_append, Array.toList_map]
    have hl : s.size = (s.data.toList.map fun b => Value.int IntKind.u8 (b.toNat : Int)).length := by simp
    rw [hl, List.take_left]
    simp [nums, numsOf]
  · exact HB.trans ⟨by simp [Lib.bytesWorld, World.freeze, World.alloc, World.drew, -World.alloc_eq, -World.drew_eq], by simp [Lib.bytesWorld, World.freeze, World.alloc, World.drew, -World.alloc_eq, -World.drew_eq], by simp [Lib.bytesWorld, World.freeze, World.alloc, World.drew, -World.alloc_eq, -World.drew_eq], by rw [Lib.bytesWorld_size]; omega, fun k hk => Lib.bytesWorld_at_old W e s k (by omega)⟩
theorem cell_lit (W : World) (u : Value) (t : TypeId) : (W.alloc (.cells #[u] t)).cell? ⟨W.heap.size, 0, none⟩ = some u := (cell_of_row _ _ 0 _ t (0, 0) (heap_alloc_new W _)).trans rfl
/-- One byte more behind it. -/
theorem T_append {w0 W : World} (base e : Nat) (hgd : o.guard = none) (s x : Operand) (t : TypeId) (ho : o.op = .call { callee := .builtin .append, args := #[s, x], argTypes := #[t, t] })
    (ht : P.underlying t = some (.slice e)) (hinfo : (P.info? e).map (fun i => (i.zero, i.size, i.bytes)) = some (some (.int .u8 0), 1, 1))
    (v : Value) (bs : List Int) (y : Int) (hs : a.eval s = v) (g : Nat) (c : Nat) (hx : a.eval x = .slice (some ⟨g, 0, none⟩) 1 c) (hg : W.cell? ⟨g, 0, none⟩ = some (.int .u8 y))
    (HO : OwnT W base e v bs) (HB : Below base w0 W) (hbase : base ≤ W.heap.size) (hl : bs.length + 1 ≤ 140737488355328)
    (h : ∀ v1 w1, OwnT w1 base e v1 (bs ++ [y]) → Below base w0 w1 → wpList P ops Q rest (a.put o.dst v1) w1) : wpList P ops Q (o :: rest) a W := by
  obtain ⟨i, hi, hzz⟩ := Option.map_eq_some_iff.1 hinfo
  simp only [Prod.mk.injEq] at hzz
  obtain ⟨hz, h4, h5⟩ := hzz
  obtain ⟨g0, cap, cur, fz, rfl, hb, hgg, hfz, hn, hm, hcs, htk⟩ := HO
  have hml : maxLen = 9223372036854775807 := rfl
  have hx1 : ∀ j u, ([Value.int .u8 y] : List Value)[j]? = some u → W.cell? ((⟨g, 0, none⟩ : Addr).add j) = some u := by
    intro j u hj
    rcases j with _ | j
    · simp only [List.getElem?_cons_zero, Option.some.injEq] at hj
      subst hj
      exact hg
    · simp at hj
  have hcell : ∀ j, j < cap → W.cell? ⟨g0, j, none⟩ = cur[j]? := fun j hj => cell_of_row W g0 j cur e fz hgg
  refine wpList_append_arg (P := P) W hgd s x t ho e i (.int .u8 0) 1 1 ht hi hz h4 h5 rfl (by omega) g0 0 bs.length cap (nums .u8 bs) hs (by simp [nums]) ?_ ⟨g, 0, none⟩ 1 c [.int .u8 y] hx rfl hx1 (by simp [Value.oneCell']) ?_ (by omega) (by omega) ?_ ?_
  · intro j u hj
    have hjl : j < bs.length := by
      have := (List.getElem?_eq_some_iff.1 hj).1
      simpa [nums] using this
    rw [Nat.zero_add, hcell j (by omega)]
    rw [← htk, List.getElem?_take, if_pos hjl] at hj
    simpa using hj
  · intro hr j hj
    have hj0 : j = 0 := by simpa using hj
    subst hj0
    have hlt : bs.length < cap := by omega
    simp only [Nat.zero_add, Nat.mul_one, Nat.add_zero]
    refine ⟨?_, ?_⟩
    · rw [hcell _ hlt, Array.getElem?_eq_getElem (by omega)]
      rfl
    · simp only [World.frozen?, hgg]
      obtain ⟨f1, f2⟩ := fz
      simp only at hfz
      simp only [Bool.and_eq_false_iff, decide_eq_false_iff_not]
      omega
  · intro hr
    refine h _ _ ⟨g0, cap, cur.setIfInBounds bs.length (.int .u8 y), fz, by simp, hb, ?_, hfz, by simpa using hr, hm, by simpa using hcs, ?_⟩ ?_
    · simp [World.setCells, World.setCell, Array.getElem?_modify, hgg]
    · simp only [List.length_append, List.length_cons, List.length_nil, Array.toList_setIfInBounds]
      have hlt : bs.length < cur.toList.length := by
        have : cur.toList.length = cur.size := Array.length_toList
        omega
      rw [List.take_add_one, List.getElem?_set_self hlt, List.take_set_of_le (Nat.le_refl _), htk]
      simp [nums]
    · exact HB.setCell hb _
  · intro hr v' w' ho' hgr
    refine h v' w' (OwnT.of_own ho' (by simp) (by simp [nums]) (by simp) hbase) ?_
    exact HB.grown hgr hbase (fun k hk => by cases hk)
end
end Go.Proofs.Ytnilogameaaooaa.Tail
