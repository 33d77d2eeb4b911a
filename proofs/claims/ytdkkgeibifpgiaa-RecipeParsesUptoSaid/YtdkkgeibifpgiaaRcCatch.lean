/- The recipe's Parse: its deferred closure, recovering and idle. -/
import Derived.Test.YtdkkgeibifpgiaaRcReader
import Derived.Defers
import Derived.Recover
namespace Go.Proofs.Ytdkkgeibifpgiaa.Rc
open Go.RowKit Go.Lib Go.Proofs.YtdkkgeibifpgiaaW.PrintWords Go.Proofs.YtdkkgeibifpgiaaW.PrintLast Go.Proofs.YtdkkgeibifpgiaaW.PrintMore Go.Proofs.Ytdkkgeibifpgiaa.Bytes
set_option linter.unusedVariables false
set_option linter.unusedSimpArgs false

theorem ta_nil (w : World) : (Instr.typeAssert .nilIface 20 51 true).run Try.prog w = .ok (.tuple #[.pointer none, .bool false]) w := by rfl
theorem ta_some (p : Value) (w : World) : (Instr.typeAssert (.iface 51 p) 20 51 true).run Try.prog w = .ok (.tuple #[p, .bool true]) w := by rfl
set_option maxHeartbeats 2000000 in
theorem catch_idle (bg be : Nat) (w : World) :
    CallsD Try.prog 16 #[.pointer (some ⟨bg, 0, none⟩), .pointer (some ⟨be, 0, none⟩)] .returning w fun e u' w' => e = .returned (.tuple #[]) ∧ u' = .returning ∧ w' = w := by
  have hta := ta_nil
  refine callsD_of_wpS Try.func16 rfl fun c₀ cs hu => ?_
  simp only [Try.ntmps16, List.size_toArray, List.length_cons, List.length_nil, Nat.reduceAdd, Nat.reduceSub, Array.replicate_succ, Array.replicate_zero, List.push_toArray, List.append_toArray, List.nil_append, List.cons_append]
  apply wpS_seq
  apply wpS_region
  simp [wpOpsS, go_sem, recoverD, hu, hta, Exit.thenS]
  refine wpS_of_wp ?_
  go_wp2
  cases c₀
  simp_all [bodyPostS, results_none (show Try.f16.results = #[] from rfl)]
set_option maxHeartbeats 2000000 in
theorem catch_panicking (bg be : Nat) (p : Value) (older : List PanicEntry) (x0 x1 x2 y0 : Value) (w : World) (hg : w.heap[bg]? = some (.cells #[x0, x1, x2] 26 (0, 0))) (he : w.heap[be]? = some (.cells #[y0] 28 (0, 0))) (hne : bg ≠ be) :
    CallsD Try.prog 16 #[.pointer (some ⟨bg, 0, none⟩), .pointer (some ⟨be, 0, none⟩)] (.panicking ({ v := .iface 51 p, recovered := false } :: older)) w fun e u' w' =>
      e = .returned (.tuple #[]) ∧ u' = .panicking ({ v := .iface 51 p, recovered := true } :: older) ∧ w' = (((w.setCell ⟨bg, 0, none⟩ (.string ⟨#[]⟩)).setCell ⟨bg, 1, none⟩ (.slice none 0 0)).setCell ⟨bg, 2, none⟩ (.slice none 0 0)).setCell ⟨be, 0, none⟩ (.iface 51 p) := by
  have hta := ta_some
  have c0 : w.cell? ⟨bg, 0, none⟩ = some x0 := by simp [World.cell?, hg]
  have c1 : w.cell? ⟨bg, 1, none⟩ = some x1 := by simp [World.cell?, hg]
  have c2 : w.cell? ⟨bg, 2, none⟩ = some x2 := by simp [World.cell?, hg]
  have c3 : w.cell? ⟨be, 0, none⟩ = some y0 := by simp [World.cell?, he]
  have z0 : ∀ i, w.frozen? ⟨bg, i, none⟩ = false := fun i => by simp [World.frozen?, hg]
  have z3 : w.frozen? ⟨be, 0, none⟩ = false := by simp [World.frozen?, he]
  refine callsD_of_wpS Try.func16 rfl fun c₀ cs hu => ?_
  simp only [Try.ntmps16, List.size_toArray, List.length_cons, List.length_nil, Nat.reduceAdd, Nat.reduceSub, Array.replicate_succ, Array.replicate_zero, List.push_toArray, List.append_toArray, List.nil_append, List.cons_append]
  apply wpS_seq
  apply wpS_region
  simp [wpOpsS, go_sem, recoverD, hu, hta, Exit.thenS]
  refine wpS_of_wp ?_
  go_wp2
  cases c₀
  simp_all [bodyPostS, results_none (show Try.f16.results = #[] from rfl)]
end Go.Proofs.Ytdkkgeibifpgiaa.Rc
