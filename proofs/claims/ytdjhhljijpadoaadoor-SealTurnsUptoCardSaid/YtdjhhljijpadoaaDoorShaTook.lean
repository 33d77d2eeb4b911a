/- SHA-256: took. -/
import Derived.Test.YtdjhhljijpadoaaDoorShaState
import Derived.Test.YtdjhhljijpadoaaDoorOrdersBut
import Derived.Deep.RegionHeld3
namespace Go.Proofs.YtdjhhljijpadoaaDoor.Sha
open Go.Proofs.YtdjhhljijpadoaaDoor.OrdersBut Go.RowKit Go.Proofs.YtdjhhljijpadoaaDoorW.PrintWords Go.Proofs.YtdjhhljijpadoaaDoorW.PrintLast Go.Proofs.YtdjhhljijpadoaaDoorW.PrintMore Go.Proofs.YtdjhhljijpadoaaDoor.Bytes
set_option linter.unusedVariables false
set_option linter.unusedSimpArgs false

theorem Glob.turn {w w' : World} {b : Nat} {s : Sd} (h : Glob w) (k : Turn w w' b s) (hb : 2 ≤ b) : Glob w' := h.below (below_of_grown (Below.refl 2 w) k.2 hb h.lt) (Nat.le_refl _)
/-- A row out of the middle of a block, in the part of a region that stands still. -/
theorem wpStill_load_mid {P : Program} {ops : Array Oper} {w : World} {op : Oper} {rest : List Oper} {a : Act} {Q : Act → Prop} (ty : TypeId) (x : Operand) (ho : op.op = .load ty x)
    (b o : Nat) (hx : a.eval x = .pointer (some ⟨b, o, none⟩)) (cs : List Value) (d : TypeDesc) (hc : w.rangeAt b o cs)
    (hu : P.underlying ty = some d) (hd : d.isRow = true) (hi : (P.info? ty).map (·.size) = some cs.length) (hw : Region.wanted op (yielded ops a.tmps) = true)
    (h : wpStill P ops w Q rest (a.put op.dst (.agg cs.toArray))) : wpStill P ops w Q (op :: rest) a := by
  refine wpStill_step fun K hK => ?_
  rw [if_pos hw]
  unfold Oper.still execOp
  simp only [ho, hx, Instr.loadAt, Instr.sureAddr, Sem.run_bind, Sem.run_pure, Result.andThen_ok, run_loadVar_mid w b o ty cs d hc hu hd hi]
  exact ⟨rfl, hK _ h⟩
/-- k bytes have come into the buffer. -/
def Sd.took (s : Sd) (k : Nat) : Sd := if s.used + k = 64 then ⟨s.n + k, block s.h s.buf, s.buf, 0⟩ else ⟨s.n + k, s.h, s.buf, s.used + k⟩
set_option maxRecDepth 100000 in
set_option maxHeartbeats 2000000 in
theorem took_calls (s : Sd) (b k : Nat) (w : World) (hs : s.At w b) (hG : Glob w) (hb : 2 ≤ b) (hu : s.used + k ≤ 64) (hn : s.n + k < 4611686018427387904) : Calls Tryd.prog 32 #[.pointer (some ⟨b, 0, none⟩), .int .i64 (k : Int)] w fun e w' => e = .returned (.tuple #[]) ∧ Turn w w' b (s.took k) := by
  have HG := Aside0.mk hG
  have HB2 := Aside0.mk hb
  have c0 := hs.count
  have c73 := hs.use
  have f0 := hs.fro 0
  have f73 := hs.fro 73
  have HS := Aside0.mk hs
  have T1 := Aside0.mk (((Turn.start hs).setCount (s.n + k)))
  have T2 := Aside0.mk (T1.out.setUsed (s.used + k))
  have c2 := T2.out.1.use
  have f2 := T2.out.1.fro 73
  simp only [] at c2
  clear hs hG
  have e1 : IntKind.i64.wrap ((s.n : Int) + (k : Int)) = ((s.n + k : Nat) : Int) := by rw [IntKind.wrap_i64]; omega
  have e2 : IntKind.i64.wrap ((s.used : Int) + (k : Int)) = ((s.used + k : Nat) : Int) := by rw [IntKind.wrap_i64]; omega
  by_cases hc : s.used + k = 64
  · have d1 : decide (((s.used + k : Nat) : Int) = 64) = true := decide_eq_true (by omega)
    go_enter Tryd.func32, Tryd.ntmps32
    go_wp2
    clear c0 c73 f0 f73 c2 f2 e1 e2 d1
    have T2' : Aside0 (Turn w ((w.setCell { block := b, off := 0 } (Value.int IntKind.i64 ((s.n : Int) + (k : Int)))).setCell { block := b, off := 73 } (Value.int IntKind.i64 64)) b { n := s.n + k, h := s.h, buf := s.buf, used := 64 }) := ⟨by
      have := T2.out
      rw [hc] at this
      exact this⟩
    clear T2
    generalize ((w.setCell { block := b, off := 0 } (Value.int IntKind.i64 ((s.n : Int) + (k : Int)))).setCell { block := b, off := 73 } (Value.int IntKind.i64 64)) = w1 at T2' ⊢
    have T3 := Aside0.mk (T2'.out.keep (below_drew (Below.refl _ w1)))
    have HG2 := Aside0.mk (HG.out.turn T3.out HB2.out)
    obtain ⟨vb, hvb⟩ : ∃ v, block s.h s.buf = v := ⟨_, rfl⟩
    have HVB := Aside0.mk hvb
    have HC := Aside0.mk (block_calls s.h s.buf T3.out.1.len w1.drew HG2.out)
    rw [hvb] at HC
    clear hvb
    have HELD := Aside0.mk (show w1.drew.rangeAt b 1 s.h.cells.toList ∧ w1.drew.rangeAt b 9 (s.buf.map bcell) from ⟨T3.out.1.words, T3.out.1.bytes⟩)
    clear T2' T1 HS
    refine wp_region_but 12 (fun W => W.rangeAt b 1 s.h.cells.toList ∧ W.rangeAt b 9 (s.buf.map bcell)) (by kernel_rfl) ?_
    refine wpAnyB_take (i := 0) rfl (by kernel_rfl) (by kernel_rfl) (by kernel_rfl) (by decide) (fun _ _ _ h => h) (Or.inl ⟨by kernel_rfl, fun w _ => by go_simp <;> with_reducible rfl⟩) (fun _ => HELD.out) ?_
    try simp only [Act.put, List.setIfInBounds_toArray, List.set_cons_zero, List.set_cons_succ]
    refine wpAnyB_take (i := 1) rfl (by kernel_rfl) (by kernel_rfl) (by kernel_rfl) (by decide) (fun _ _ _ h => h) (Or.inl ⟨by kernel_rfl, fun w _ => by go_simp <;> with_reducible rfl⟩) (fun _ => HELD.out) ?_
    try simp only [Act.put, List.setIfInBounds_toArray, List.set_cons_zero, List.set_cons_succ]
    refine wpAnyB_take (i := 2) rfl (by kernel_rfl) (by kernel_rfl) (by kernel_rfl) (by decide) (fun _ _ _ h => h) (Or.inl ⟨by kernel_rfl, fun w _ => by go_simp <;> with_reducible rfl⟩) (fun _ => HELD.out) ?_
    try simp only [Act.put, List.setIfInBounds_toArray, List.set_cons_zero, List.set_cons_succ]
    refine wpAnyB_take (i := 3) rfl (by kernel_rfl) (by kernel_rfl) (by kernel_rfl) (by decide) (fun _ _ _ h => h) (Or.inl ⟨by kernel_rfl, fun w _ => by go_simp <;> with_reducible rfl⟩) (fun _ => HELD.out) ?_
    try simp only [Act.put, List.setIfInBounds_toArray, List.set_cons_zero, List.set_cons_succ]
    refine wpAnyB_load (i := 4) rfl (by kernel_rfl) (by kernel_rfl) (by kernel_rfl) (by decide) (by kernel_rfl) (by kernel_rfl) (fun _ _ _ h => h) (yieldsIf_load_mid (by kernel_rfl) 69 (.tmp 30) rfl b 1 rfl s.h.cells.toList _ (fun w h => h.1) Tryd.underlying69 rfl (by kernel_rfl)) HELD.out ?_
    try simp only [Act.put, List.setIfInBounds_toArray, List.set_cons_zero, List.set_cons_succ]
    refine wpAnyB_take (i := 5) rfl (by kernel_rfl) (by kernel_rfl) (by kernel_rfl) (by decide) (fun _ _ _ h => h) (Or.inl ⟨by kernel_rfl, fun w _ => by go_simp <;> with_reducible rfl⟩) (fun _ => HELD.out) ?_
    try simp only [Act.put, List.setIfInBounds_toArray, List.set_cons_zero, List.set_cons_succ]
    refine wpAnyB_take (i := 6) rfl (by kernel_rfl) (by kernel_rfl) (by kernel_rfl) (by decide) (fun _ _ _ h => h) (Or.inl ⟨by kernel_rfl, fun w _ => by go_simp <;> with_reducible rfl⟩) (fun _ => HELD.out) ?_
    try simp only [Act.put, List.setIfInBounds_toArray, List.set_cons_zero, List.set_cons_succ]
    refine wpAnyB_take (i := 7) rfl (by kernel_rfl) (by kernel_rfl) (by kernel_rfl) (by decide) (fun _ _ _ h => h) (Or.inl ⟨by kernel_rfl, fun w _ => by go_simp <;> with_reducible rfl⟩) (fun _ => HELD.out) ?_
    try simp only [Act.put, List.setIfInBounds_toArray, List.set_cons_zero, List.set_cons_succ]
    refine wpAnyB_load (i := 8) rfl (by kernel_rfl) (by kernel_rfl) (by kernel_rfl) (by decide) (by kernel_rfl) (by kernel_rfl) (fun _ _ _ h => h) (yieldsIf_load_mid (by kernel_rfl) 49 (.tmp 34) rfl b 9 rfl (s.buf.map bcell) _ (fun w h => h.2) Tryd.underlying49 rfl (by rw [List.length_map, T3.out.1.len]; kernel_rfl)) HELD.out ?_
    try simp only [Act.put, List.setIfInBounds_toArray, List.set_cons_zero, List.set_cons_succ]
    refine wpAnyB_one (i := 9) rfl (by kernel_rfl) (fun K9 hK => ?_)
    rw [if_pos (by kernel_rfl)]
    go_simp
    with_reducible refine HC.out.mono ?_
    rintro e w4 ⟨rfl, hb4⟩
    have T4 := Aside0.mk (T3.out.keep hb4)
    have HELD4 := Aside0.mk (show w4.rangeAt b 1 s.h.cells.toList ∧ w4.rangeAt b 9 (s.buf.map bcell) from ⟨T4.out.1.words, T4.out.1.bytes⟩)
    refine hK _ _ (fun _ => HELD4.out) ?_
    clear hK K9 HELD HC hb4
    try simp only [Act.put, List.setIfInBounds_toArray, List.set_cons_zero, List.set_cons_succ]
    refine wpAnyB_take (i := 10) rfl (by kernel_rfl) (by kernel_rfl) (by kernel_rfl) (by decide) (fun _ _ _ h => h) (Or.inl ⟨by kernel_rfl, fun w _ => by go_simp <;> with_reducible rfl⟩) (fun _ => HELD4.out) ?_
    try simp only [Act.put, List.setIfInBounds_toArray, List.set_cons_zero, List.set_cons_succ]
    refine wpAnyB_take (i := 11) rfl (by kernel_rfl) (by kernel_rfl) (by kernel_rfl) (by decide) (fun _ _ _ h => h) (Or.inl ⟨by kernel_rfl, fun w _ => by go_simp <;> with_reducible rfl⟩) (fun _ => HELD4.out) ?_
    try simp only [Act.put, List.setIfInBounds_toArray, List.set_cons_zero, List.set_cons_succ]
    refine wpAnyB_one (i := 12) rfl (by kernel_rfl) (fun K9 hK => ?_)
    rw [if_pos (by kernel_rfl)]
    refine wp_store_mid 69 (.tmp 38) (.tmp 36) rfl b 1 vb.cells rfl rfl (fun j hj => ⟨T4.out.1.words.isSome j hj, T4.out.1.fro _⟩) (by kernel_rfl) (by kernel_rfl) ?_
    refine hK _ _ (fun h => Bool.noConfusion (h.symm.trans (show _ = true by kernel_rfl))) ?_
    have T5 := Aside0.mk (T4.out.setWords vb)
    generalize w4.setCells b 1 vb.cells.toList = w5 at T5 ⊢
    refine wpAnyB_done (by kernel_rfl) ?_ _
    clear hK K9 HELD4 T4
    have c5 := T5.out.1.use
    have f5 := T5.out.1.fro 73
    try simp only [Act.put, List.setIfInBounds_toArray, List.set_cons_zero, List.set_cons_succ]
    go_wp2
    go_end0
    refine ⟨rfl, ?_⟩
    unfold Sd.took
    rw [if_pos hc, HVB.out]
    exact T5.out.setUsed 0
  · have d1 : decide (((s.used + k : Nat) : Int) = 64) = false := decide_eq_false (by omega)
    go_enter Tryd.func32, Tryd.ntmps32
    go_wp2
    go_end0
    refine ⟨rfl, ?_⟩
    unfold Sd.took
    rw [if_neg hc]
    exact T2.out
end Go.Proofs.YtdjhhljijpadoaaDoor.Sha
