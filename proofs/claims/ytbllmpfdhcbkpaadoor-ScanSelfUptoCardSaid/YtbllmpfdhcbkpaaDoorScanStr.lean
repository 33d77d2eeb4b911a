/- (*strings.Builder).String, with where it writes: the builder's own row alone. -/
import Derived.Test.YtbllmpfdhcbkpaaDoorLays
import Derived.Test.YtbllmpfdhcbkpaaDoorKit
import Derived.Test.YtbllmpfdhcbkpaaDoorRowS
namespace Go.Proofs.YtbllmpfdhcbkpaaDoor.Scan
open Go.Shelf Go.RowKit Go.Proofs.YtbllmpfdhcbkpaaDoor.Q Go.Proofs.YtbllmpfdhcbkpaaDoorW.PrintWords Go.Proofs.YtbllmpfdhcbkpaaDoorW.PrintLast Go.Proofs.YtbllmpfdhcbkpaaDoorW.PrintMore Go.Proofs.YtbllmpfdhcbkpaaDoor.Bytes
set_option linter.unusedVariables false
set_option linter.unusedSimpArgs false
/-- Only these blocks and new memory are written. -/
structure Fr (S : Nat → Prop) (w w' : World) : Prop where
  os : w'.os = w.os
  tape : w'.tape = w.tape
  output : w'.output = w.output
  size : w.heap.size ≤ w'.heap.size
  block : ∀ k, k < w.heap.size → ¬ S k → w'.heap[k]? = w.heap[k]?
theorem Fr.of_below {S : Nat → Prop} {w w' : World} (h : Below w.heap.size w w') : Fr S w w' := ⟨h.os, h.tape, h.output, h.size, fun k hk _ => h.block k hk⟩
theorem Fr.refl (S : Nat → Prop) (w : World) : Fr S w w := ⟨rfl, rfl, rfl, Nat.le_refl _, fun _ _ _ => rfl⟩
theorem Fr.trans {S T : Nat → Prop} {a b c : World} (h : Fr S a b) (k : Fr T b c) (hT : ∀ g, T g → S g ∨ a.heap.size ≤ g) : Fr S a c :=
  ⟨k.os.trans h.os, k.tape.trans h.tape, k.output.trans h.output, Nat.le_trans h.size k.size, fun i hi hn => (k.block i (Nat.lt_of_lt_of_le hi h.size) (fun ht => (hT i ht).elim hn (by omega))).trans (h.block i hi hn)⟩
theorem Fr.less {S T : Nat → Prop} {a b : World} (h : Fr S a b) (hT : ∀ g, S g → T g ∨ a.heap.size ≤ g) : Fr T a b := ⟨h.os, h.tape, h.output, h.size, fun k hk hn => h.block k hk (fun s => (hT k s).elim hn (by omega))⟩
theorem Fr.below {S : Nat → Prop} {B : Nat} {w W W2 : World} (h : Below B w W) (k : Fr S W W2) (hS : ∀ g, S g → B ≤ g ∨ W.heap.size ≤ g) (hB : B ≤ W.heap.size) : Below B w W2 :=
  h.trans ⟨k.os, k.tape, k.output, k.size, fun i hi => k.block i (by omega) (fun s => by have := hS i s; omega)⟩
theorem Fr.cell {S : Nat → Prop} {w W : World} (h : Fr S w W) {a : Addr} {v : Value} (hc : w.cell? a = some v) (hn : ¬ S a.block) : W.cell? a = some v := by
  have hlt : a.block < w.heap.size := by
    rcases Nat.lt_or_ge a.block w.heap.size with h' | h'
    · exact h'
    · simp [World.cell?, Array.getElem?_eq_none h'] at hc
  unfold World.cell? at hc ⊢
  rw [h.block _ hlt hn]
  exact hc
theorem Fr.grown {w W : World} {v : Value} (h : w.grownBy W v.ownBlock) : Fr (fun g => v.ownBlock = some g) w W := ⟨h.os, h.tape, h.output, h.size, fun k hk hn => h.block k hk (fun e => hn e.symm)⟩
theorem Fr.setRow {S : Nat → Prop} {w w' : World} (h : Fr S w w') (g : Nat) (hg : S g ∨ w.heap.size ≤ g) (cs : Array Value) : Fr S w (w'.setRow g cs) := by
  refine ⟨h.os, h.tape, h.output, by simpa [World.setRow] using h.size, fun k hk hn => ?_⟩
  have hne : k ≠ g := by
    rintro rfl
    rcases hg with hg | hg
    · exact hn hg
    · omega
  rw [setRow_other w' g k cs hne]
  exact h.block k hk hn
/-- A row of cells that only is read. -/
def TB (A : Option Addr) (g : Nat) : Prop := ∃ a, A = some a ∧ a.block = g
theorem C_kept {α : Type} {d : Kd α} (hd : ∀ {W W' : World} {x : α} {cs : List Value}, d.K W x cs → d.K W' x cs) {S : Nat → Prop} {w W : World} {A : Option Addr} {n : Nat} {xs : List α} (h : d.C w A n xs) (k : Fr S w W) (hS : ∀ g, TB A g → ¬ S g) : d.C W A n xs := by
  obtain ⟨h1, h2, h3⟩ := h
  refine ⟨h1, h2, fun hp => ?_⟩
  obtain ⟨a, e, h4⟩ := h3 hp
  refine ⟨a, e, fun j p hj => ?_⟩
  obtain ⟨cs, l1, l2, l3⟩ := h4 j p hj
  exact ⟨cs, l1, hd l2, fun i u hu => k.cell (l3 i u hu) (fun s => hS _ ⟨a, e, by simp [Addr.add]; split <;> rfl⟩ s)⟩
set_option maxRecDepth 100000 in
set_option maxHeartbeats 4000000 in
theorem string_calls (B b : Nat) (p v : Value) (l : List UInt8) (w : World) (hbk : w.heap[b]? = some (.cells #[p, v] 74 (0, 0))) (hown : w.ownsRowF B 5 1 v l.length (Lib.byteCells l)) :
    Calls Tryd.prog 33 #[.pointer (some ⟨b, 0, none⟩)] w fun e w' => e = .returned (.string ⟨l.toArray⟩) ∧ Fr (fun g => v.ownBlock = some g) w w' := by
  by_cases h0 : l = []
  · subst h0
    have hUS : ∀ (W : World) (q : Option Addr), (Builtin.unsafeString_ #[107, 3] 9 #[.pointer q, .int .i64 0]).run Tryd.prog W = .ok (.string .empty) W := fun W q => Lib.run_unsafeString_none W _ _ _ q
    have mixed : Tryd.prog.follows .mixedOrders = true := by kernel_rfl
    rcases hown.2 with ⟨rfl, _⟩ | ⟨g, cap, cur, fz, rfl, hbg, hg, _⟩
    · have c1 : w.drew.cell? ⟨b, 1, none⟩ = some (.slice none 0 0) := by
        have h : w.drew.heap[b]? = some (.cells #[p, .slice none 0 0] 74 (0, 0)) := hbk
        rw [Lib.cell_of_heap h]
        rfl
      have hSD : (Builtin.unsafeSliceData_ #[41] 107 #[.slice none 0 0]).run Tryd.prog w.drew = .ok (.pointer none) w.drew := rfl
      go_enter Tryd.func33, Tryd.ntmps33
      go_wp2
      go_region_o
      all_goals (go_wp2; go_ret; exact ⟨rfl, Fr.of_below (below_drew (Below.refl _ _))⟩)
    · by_cases hc0 : cap = 0
      · subst hc0
        have hlt : b < w.heap.size := (Array.getElem?_eq_some_iff.1 hbk).1
        have c1 : w.drew.cell? ⟨b, 1, none⟩ = some (.slice (some ⟨g, 0, none⟩) 0 0) := by
          have h : w.drew.heap[b]? = some (.cells #[p, .slice (some ⟨g, 0, none⟩) 0 0] 74 (0, 0)) := hbk
          rw [Lib.cell_of_heap h]
          rfl
        have hSD : (Builtin.unsafeSliceData_ #[41] 107 #[.slice (some ⟨g, 0, none⟩) 0 0]).run Tryd.prog w.drew = .ok (.pointer (some ⟨w.drew.heap.size, 0, none⟩)) (w.drew.alloc (.view ⟨g, 0, none⟩ 5)) :=
          Lib.run_unsafeSliceData_zero w.drew _ _ 5 Tryd.underlying107 ⟨g, 0, none⟩ 0 (5, cur.size) (by have hg' : w.drew.heap[g]? = some (.cells cur 5 fz) := hg; simp [World.shape?, hg'])
        have c2 : (w.drew.alloc (.view ⟨g, 0, none⟩ 5)).cell? ⟨b, 1, none⟩ = some (.slice (some ⟨g, 0, none⟩) 0 0) := by
          have h : (w.drew.alloc (.view ⟨g, 0, none⟩ 5)).heap[b]? = _ := (Lib.alloc_old w.drew _ b hlt).trans hbk
          rw [Lib.cell_of_heap h]
          rfl
        have c3 : (w.alloc (.view ⟨g, 0, none⟩ 5)).drew.cell? ⟨b, 1, none⟩ = some (.slice (some ⟨g, 0, none⟩) 0 0) := c2
        have c0 : w.cell? ⟨b, 1, none⟩ = some (.slice (some ⟨g, 0, none⟩) 0 0) := c1
        go_enter Tryd.func33, Tryd.ntmps33
        go_wp2
        go_region_o
        all_goals (go_wp2; go_ret; exact ⟨rfl, Fr.of_below ((below_drew (Below.refl _ w)).alloc (Nat.le_refl _) _)⟩)
      · have c1 : w.drew.cell? ⟨b, 1, none⟩ = some (.slice (some ⟨g, 0, none⟩) 0 cap) := by
          have h : w.drew.heap[b]? = some (.cells #[p, .slice (some ⟨g, 0, none⟩) 0 cap] 74 (0, 0)) := hbk
          rw [Lib.cell_of_heap h]
          rfl
        have hSD : (Builtin.unsafeSliceData_ #[41] 107 #[.slice (some ⟨g, 0, none⟩) 0 cap]).run Tryd.prog w.drew = .ok (.pointer (some ⟨g, 0, none⟩)) w.drew :=
          Lib.run_unsafeSliceData_row _ _ _ _ _ _ hc0
        go_enter Tryd.func33, Tryd.ntmps33
        go_wp2
        go_region_o
        all_goals (go_wp2; go_ret; exact ⟨rfl, Fr.of_below (below_drew (Below.refl _ _))⟩)
  · have hl0 : l.length ≠ 0 := by simpa using h0
    obtain ⟨g, cap, cur, fz, rfl, hbg, hg, hfz, hnc, hcm, hcs, htake⟩ : ∃ g cap cur fz, v = .slice (some ⟨g, 0, none⟩) l.length cap ∧ B ≤ g ∧ w.heap[g]? = some (.cells cur 5 fz) ∧ fz.2 ≤ l.length * 1 ∧ l.length ≤ cap ∧ cap ≤ maxLen ∧ cur.size = cap * 1 ∧ cur.toList.take (l.length * 1) = Lib.byteCells l := by
      rcases hown.2 with ⟨_, hz⟩ | ⟨g, cap, cur, fz, hv, r⟩
      · exact absurd hz hl0
      · exact ⟨g, cap, cur, fz, hv, r⟩
    have c1 : w.drew.cell? ⟨b, 1, none⟩ = some (.slice (some ⟨g, 0, none⟩) l.length cap) := by
      have h : w.drew.heap[b]? = some (.cells #[p, .slice (some ⟨g, 0, none⟩) l.length cap] 74 (0, 0)) := hbk
      rw [Lib.cell_of_heap h]
      rfl
    have hSD : (Builtin.unsafeSliceData_ #[41] 107 #[.slice (some ⟨g, 0, none⟩) l.length cap]).run Tryd.prog w.drew = .ok (.pointer (some ⟨g, 0, none⟩)) w.drew :=
      Lib.run_unsafeSliceData_row _ _ _ _ _ _ (by omega)
    have hUS : (Builtin.unsafeString_ #[107, 3] 9 #[.pointer (some ⟨g, 0, none⟩), .int .i64 l.length]).run Tryd.prog w.drew = .ok (.string ⟨l.toArray⟩) (w.drew.freeze ⟨g, 0, none⟩ l.length) := by
      refine Lib.run_unsafeString_row w.drew 107 3 9 5 Tryd.underlying107 (by kernel_rfl) g cur.size (by have hg' : w.drew.heap[g]? = some (.cells cur 5 fz) := hg; simp [World.shape?, hg']) l h0 (by omega) (by unfold maxLen at hcm; omega) ?_
      intro j x hx
      exact hown.cells (g := g) rfl j (.int .u8 x.toNat) (by simp [Lib.byteCells, hx])
    have hfr : Fr (fun k => (Value.slice (some ⟨g, 0, none⟩) l.length cap).ownBlock = some k) w (w.drew.freeze ⟨g, 0, none⟩ l.length) := by
      refine ⟨?_, ?_, ?_, ?_, fun k hk hn => ?_⟩
      all_goals unfold World.freeze
      all_goals split
      all_goals first | rfl | exact Nat.le_refl _ | skip
      · simp
      · have hne : g ≠ k := fun e => hn (by simp [Value.ownBlock, e])
        simp only [Array.getElem?_modify]
        rw [if_neg hne]
        rfl
    have mixed : Tryd.prog.follows .mixedOrders = true := by kernel_rfl
    go_enter Tryd.func33, Tryd.ntmps33
    go_wp2
    go_region_o
    all_goals (go_wp2; go_ret; exact ⟨rfl, hfr⟩)
end Go.Proofs.YtbllmpfdhcbkpaaDoor.Scan
