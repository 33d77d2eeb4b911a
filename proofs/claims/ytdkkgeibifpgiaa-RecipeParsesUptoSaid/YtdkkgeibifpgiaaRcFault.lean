/- The law's fault: of no error, of Parse's. -/
import Derived.Test.YtdkkgeibifpgiaaRcParsed
namespace Go.Proofs.Ytdkkgeibifpgiaa.Rc
open Go.RowKit Go.Proofs.YtdkkgeibifpgiaaW.PrintWords Go.Proofs.YtdkkgeibifpgiaaW.PrintLast Go.Proofs.YtdkkgeibifpgiaaW.PrintMore Go.Proofs.Ytdkkgeibifpgiaa.Bytes Go.Proofs.Ytdkkgeibifpgiaa.Q
set_option linter.unusedVariables false
set_option linter.unusedSimpArgs false

theorem ta_err (p : Value) (w : World) : (Instr.typeAssert (.iface 51 p) 28 51 true).run Try.prog w = .ok (.tuple #[p, .bool true]) w := by rfl
set_option maxRecDepth 100000 in
set_option maxHeartbeats 4000000 in
theorem fault_none (w : World) : Calls Try.prog 13 #[.nilIface] w fun e w' => e = .returned (.agg #[.int .i64 0, .int .i64 0]) ∧ Below w.heap.size w w' := by
  go_enter Try.func13, Try.ntmps13
  go_wp2
  refine bodyPost_ret (v := .agg #[.int .i64 0, .int .i64 0]) (results_cell_row rfl _ _ w.heap.size 40 #[.int .i64 0, .int .i64 0] (0, 0) _ rfl (heap_alloc_new w _) Try.underlying40 rfl (by kernel_rfl)) rfl ?_
  exact ⟨rfl, below_alloc (Below.refl _ _) _⟩
set_option maxRecDepth 100000 in
set_option maxHeartbeats 4000000 in
theorem fault_some (g : Nat) (c p : Int) (w : World) (hg : w.heap[g]? = some (.cells #[.int .i64 c, .int .i64 p] 40 (0, 0))) :
    Calls Try.prog 13 #[.iface 51 (.pointer (some ⟨g, 0, none⟩))] w fun e w' => e = .returned (.agg #[.int .i64 c, .int .i64 p]) ∧ Below w.heap.size w w' := by
  have hta := ta_err (.pointer (some ⟨g, 0, none⟩))
  have hlt := (Array.getElem?_eq_some_iff.1 hg).1
  have c0 : ∀ o, (w.alloc o).cell? ⟨g, 0, none⟩ = some (.int .i64 c) := fun o => pw_cell_below (below_alloc (Below.refl _ w) o) (by simp [World.cell?, hg])
  have c1 : ∀ o, (w.alloc o).cell? ⟨g, 1, none⟩ = some (.int .i64 p) := fun o => pw_cell_below (below_alloc (Below.refl _ w) o) (by simp [World.cell?, hg])
  go_enter Try.func13, Try.ntmps13
  go_wp2
  refine bodyPost_ret (v := .agg #[.int .i64 c, .int .i64 p]) (results_cell_row rfl _ _ w.heap.size 40 #[.int .i64 c, .int .i64 p] (0, 0) _ rfl (heap_alloc_new w _) Try.underlying40 rfl (by kernel_rfl)) rfl ?_
  exact ⟨rfl, below_alloc (Below.refl _ _) _⟩
end Go.Proofs.Ytdkkgeibifpgiaa.Rc
