/- strings.SplitSeq at the separator "/": its iterator's contract (it keeps what is left of the text in a variable of its own). -/
import Derived.Test.YtabgpdpdgkgmbaaDoorLoopAb
import Derived.Test.YtabgpdpdgkgmbaaDoorPieces
import Derived.Test.YtabgpdpdgkgmbaaDoorShelf
import Derived.RangeFuncNested
import Derived.RangeFuncBound
import Derived.RangeFuncCalls
import Derived.RangeFuncLeaves
import Derived.RangeFuncBox
import Derived.Shelf.Abstract
import Derived.Shelf.RegionOpen
import Derived.WalkKit
import Derived.OwnWalkIn
import Derived.TacticsInMore
import Derived.LoopNIn
import Derived.LoopIn
namespace Go.Proofs.YtabgpdpdgkgmbaaDoor.Loop
open Go.RowKit Go.Shelf Go.Proofs.YtabgpdpdgkgmbaaDoor.Bytes
set_option linter.unusedVariables false
set_option linter.unusedSimpArgs false
attribute [local go_sem] Oper.semAt_some

def slash : ByteArray := ⟨#[47]⟩
/-- The string in a variable's box: its length; for the measure. -/
def boxLen (b : Nat) (w : World) : Nat := match w.cell? ⟨b, 0, none⟩ with | some (.string t) => t.size | _ => 0
theorem boxLen_of {b : Nat} {w : World} {t : ByteArray} (h : w.cell? ⟨b, 0, none⟩ = some (.string t)) : boxLen b w = t.size := by simp [boxLen, h]
/-- What the iterator itself turns: the box of what is left. -/
def SeqTurn (b : Nat) (A B : World) : Prop := ∃ v : Value, B = A.setCell ⟨b, 0, none⟩ v
/-- What a round must keep: the iterator's three boxes. -/
def SeqKeep (b : Nat) (A B : World) : Prop := ∀ k, b ≤ k → k < b + 3 → B.heap[k]? = A.heap[k]?
theorem SeqKeep.trans {b : Nat} {A B C : World} (h : SeqKeep b A B) (k : SeqKeep b B C) : SeqKeep b A C := fun i h1 h2 => (k i h1 h2).trans (h i h1 h2)
theorem SeqKeep.refl (b : Nat) (A : World) : SeqKeep b A A := fun _ _ _ => rfl
/-- The three boxes as they stand. -/
structure SeqAt (b : Nat) (rest : ByteArray) (W : World) : Prop where
  s : Boxed W b 9 (.string rest)
  sep : Boxed W (b + 1) 9 (.string slash)
  save : Boxed W (b + 2) 3 (.int .i64 0)
theorem SeqAt.keep {b : Nat} {r : ByteArray} {A B : World} (h : SeqAt b r A) (k : SeqKeep b A B) : SeqAt b r B :=
  ⟨(k b (by omega) (by omega)).trans h.s, (k _ (by omega) (by omega)).trans h.sep, (k _ (by omega) (by omega)).trans h.save⟩
theorem SeqAt.set {b : Nat} {r : ByteArray} {A : World} (h : SeqAt b r A) (r' : ByteArray) : SeqAt b r' (A.setCell ⟨b, 0, none⟩ (.string r')) :=
  ⟨h.s.set _, h.sep.kept (grownBy_setCell' A b _) (by simp), h.save.kept (grownBy_setCell' A b _) (by simp)⟩

set_option maxRecDepth 100000 in
set_option maxHeartbeats 1000000 in
theorem splitSeq_calls (s : ByteArray) (w : World) :
    Calls Tryd.prog 18 #[.string s, .string slash] w fun e w' => e = .returned (.func (.func 30) #[] #[.pointer (some ⟨w.heap.size + 1, 0, none⟩), .pointer (some ⟨w.heap.size, 0, none⟩), .pointer (some ⟨w.heap.size + 2, 0, none⟩)]) ∧
      w' = ((w.alloc (.cells #[.string s] 9)).alloc (.cells #[.string slash] 9)).alloc (.cells #[.int .i64 0] 3) := by
  have hmf : ∀ (fn : Fn) (first cap : Array Value) (w : World), (Instr.makeFunc fn first cap).run Tryd.prog w = .ok (.func fn first cap) w := fun _ _ _ _ => rfl
  go_enter Tryd.func18, Tryd.ntmps18
  go_wp2
  go_ret
  exact ⟨rfl, rfl⟩

set_option maxRecDepth 100000 in
set_option maxHeartbeats 4000000 in
theorem seq_in (F : Fence) (n : Nat) (hF : F = Fence.wide) (l b : Nat) (path : ByteArray) (J Jx : List ByteArray → World → Prop)
    (hJ : ∀ s A B, J s A → SeqTurn b A B → J s B) (hJx : ∀ s A B, Jx s A → SeqTurn b A B → Jx s B)
    (hY : ∀ pre x W, J pre W → YieldAt F (n - 1) Tryd.prog l #[.string x] W fun e W' =>
      (e = .returned (.bool true) ∧ J (pre ++ [x]) W' ∧ SeqKeep b W W') ∨ (e = .returned (.bool false) ∧ Jx (pre ++ [x]) W'))
    (hp : path.size ≤ 140737488355328) (W : World) (hS : SeqAt b path W) (h0 : J [] W) :
    CallsIn F n Tryd.prog 30 #[.func (.yield l) #[] #[], .pointer (some ⟨b + 1, 0, none⟩), .pointer (some ⟨b, 0, none⟩), .pointer (some ⟨b + 2, 0, none⟩)] W fun e W' => (∃ v, e = .returned v) ∧
      ((∃ ys : List ByteArray, ys.map bs = cutAt 47 (bs path) ∧ J ys W') ∨ (∃ pre : List ByteArray, pre.map bs <+: cutAt 47 (bs path) ∧ Jx pre W')) := by
  subst hF
  refine callsIn_of_wp Tryd.func30 rfl trivial ?_ rfl
  simp only [Tryd.ntmps30, List.size_toArray, List.length_cons, List.length_nil, Nat.reduceAdd, Nat.reduceSub, Array.replicate_succ, Array.replicate_zero, List.push_toArray, List.append_toArray, List.nil_append, List.cons_append]
  have c0 := hS.s.cell
  have c1 := hS.sep.cell
  have c2 := hS.save.cell
  have hl : slash.size = 1 := rfl
  gi_wp2
  gi_loopw [7] (fun i wr => ∃ (pre : List ByteArray) (rest : ByteArray), SeqAt b rest wr ∧ rest.size ≤ path.size ∧ cutAt 47 (bs path) = pre.map bs ++ cutAt 47 (bs rest) ∧ J pre wr) (fun i wr => boxLen b wr)
  case atStart => exact ⟨[], path, hS, Nat.le_refl _, rfl, h0⟩
  case round =>
    obtain ⟨pre, rest, hA, hsz, hc, hj⟩ := hrel
    have d0 := hA.s.cell
    have d1 := hA.sep.cell
    have d2 := hA.save.cell
    by_cases hneg : Lib.indexByte rest.data.toList 47 < 0
    · have hcut := cutAt_neg 47 (bs rest) hneg
      obtain ⟨fn, tmps, assign, body, hy, hR⟩ := hY pre rest wr hj
      gi_wp2_with (refine ⟨trivial, (fun h => by cases h), ?_⟩; gi_at_call 32; refine (callsIn_wide.2 (Tryd.strings_Index_one rest 47 _)).mono ?_; rintro e w' ⟨rfl, he⟩; subst he)
      refine ⟨(fun h => by cases h), ?_⟩
      refine hR.mono ?_
      rintro e W3 (⟨rfl, hJ3, hk3⟩ | ⟨rfl, hJx3⟩)
      · gi_wp2
        go_end0
        exact ⟨⟨_, rfl⟩, .inl ⟨pre ++ [rest], by rw [hc, hcut, List.map_append]; rfl, hJ3⟩⟩
      · gi_wp2
        go_end0
        exact ⟨⟨_, rfl⟩, .inr ⟨pre ++ [rest], by rw [hc, hcut, List.map_append]; exact List.prefix_refl _, hJx3⟩⟩
    · obtain ⟨o, ho⟩ := Int.eq_ofNat_of_zero_le (show 0 ≤ Lib.indexByte rest.data.toList 47 by omega)
      obtain ⟨hlt, hcut⟩ := cutAt_idx 47 (bs rest) o ho
      rw [← size_bs] at hlt
      have hz : (rest.extract (o + 1) rest.size).size = rest.size - (o + 1) := by rw [size_bs, bs_extract, List.length_take, List.length_drop, ← size_bs]; omega
      have hcc : cutAt 47 (bs path) = (pre ++ [rest.extract 0 o]).map bs ++ cutAt 47 (bs (rest.extract (o + 1) rest.size)) := by
        have e1 : bs (rest.extract 0 o) = (bs rest).take o := by rw [bs_extract, List.drop_zero, Nat.sub_zero]
        have e2 : bs (rest.extract (o + 1) rest.size) = (bs rest).drop (o + 1) := by rw [bs_extract, List.take_of_length_le (by rw [List.length_drop, ← size_bs]; omega)]
        rw [hc, hcut, List.map_append, List.map_cons, List.map_nil, e1, e2, List.append_assoc, List.singleton_append]
      have hw : wrap64 (o : Int) = o := w64 (by omega) (by omega)
      have hw1 : wrap64 ((o : Int) + 1) = ((o + 1 : Nat) : Int) := by rw [w64 (by omega) (by omega)]; omega
      obtain ⟨fn, tmps, assign, body, hy, hR⟩ := hY pre (rest.extract 0 o) wr hj
      gi_wp2_with (refine ⟨trivial, (fun h => by cases h), ?_⟩; gi_at_call 32; refine (callsIn_wide.2 (Tryd.strings_Index_one rest 47 _)).mono ?_; rintro e w' ⟨rfl, he⟩; subst he)
      refine ⟨(fun h => by cases h), ?_⟩
      refine hR.mono ?_
      rintro e W3 (⟨rfl, hJ3, hk3⟩ | ⟨rfl, hJx3⟩)
      · have hA3 := hA.keep hk3
        have e0 := hA3.s.cell
        have e1 := hA3.sep.cell
        have e2 := hA3.save.cell
        have e3 := hA3.s.frozen
        gi_wp2
        go_roundw
        case rel => exact ⟨pre ++ [rest.extract 0 o], _, hA3.set _, by rw [hz]; omega, hcc, hJ _ _ _ hJ3 ⟨_, rfl⟩⟩
        case measure => rw [boxLen_of d0, boxLen_of (hA3.set _).s.cell, hz]; omega
      · gi_wp2
        refine bodyPost_ret (results_none rfl _ _ _) rfl ?_
        exact ⟨⟨_, rfl⟩, .inr ⟨pre ++ [rest.extract 0 o], by rw [hcc]; exact List.prefix_append _ _, hJx3⟩⟩
end Go.Proofs.YtabgpdpdgkgmbaaDoor.Loop
