/- The recipe's reader in memory; bad, next, want: what each does, a panic among it. -/
import Derived.Test.YtdkkgeibifpgiaaRcModel
import Derived.Test.YtdkkgeibifpgiaaProg
import Derived.Test.YtdkkgeibifpgiaaWMore
import Derived.Test.YtdkkgeibifpgiaaKit
import Derived.WalkKit
import Derived.WalkLawsBesides
import Derived.Recover
import Derived.Defers
import Derived.RangeFuncBox
namespace Go.Proofs.Ytdkkgeibifpgiaa.Rc
open Go.RowKit Go.Proofs.YtdkkgeibifpgiaaW.PrintWords Go.Proofs.YtdkkgeibifpgiaaW.PrintLast Go.Proofs.YtdkkgeibifpgiaaW.PrintMore Go.Proofs.Ytdkkgeibifpgiaa.Bytes
set_option linter.unusedVariables false
set_option linter.unusedSimpArgs false

/-- The reader: its text, its place. -/
def RdAt (W : World) (rb : Nat) (T : ByteArray) (a : Nat) : Prop := W.heap[rb]? = some (.cells #[.string T, .int .i64 (a : Int)] 50 (0, 0))
/-- All that lay, but the reader, lies as it lay. -/
structure Rf (rb : Nat) (W W' : World) : Prop where
  os : W'.os = W.os
  tape : W'.tape = W.tape
  output : W'.output = W.output
  size : W.heap.size ≤ W'.heap.size
  block : ∀ k, k < W.heap.size → k ≠ rb → W'.heap[k]? = W.heap[k]?
theorem Rf.refl (rb : Nat) (W : World) : Rf rb W W := ⟨rfl, rfl, rfl, Nat.le_refl _, fun _ _ _ => rfl⟩
theorem Rf.trans {rb : Nat} {A B C : World} (h : Rf rb A B) (k : Rf rb B C) : Rf rb A C :=
  ⟨k.os.trans h.os, k.tape.trans h.tape, k.output.trans h.output, Nat.le_trans h.size k.size, fun i hi hn => (k.block i (Nat.lt_of_lt_of_le hi h.size) hn).trans (h.block i hi hn)⟩
theorem Rf.of_below {rb : Nat} {A B : World} (h : Below A.heap.size A B) : Rf rb A B := ⟨h.os, h.tape, h.output, h.size, fun k hk _ => h.block k hk⟩
theorem Rf.below {rb B : Nat} {W W' : World} (h : Rf rb W W') (hb : B ≤ rb) (hB : B ≤ W.heap.size) : Below B W W' := ⟨h.os, h.tape, h.output, h.size, fun k hk => h.block k (by omega) (by omega)⟩
theorem Rf.set {rb : Nat} {A B : World} (h : Rf rb A B) (i : Nat) (v : Value) : Rf rb A (B.setCell ⟨rb, i, none⟩ v) :=
  h.trans ⟨rfl, rfl, rfl, (KeepsWalks.setCell B _ v).size, fun k _ hn => Below.heap_setCell _ _ _ k hn⟩
theorem RdAt.lt {W : World} {rb : Nat} {T : ByteArray} {a : Nat} (h : RdAt W rb T a) : rb < W.heap.size := (Array.getElem?_eq_some_iff.1 h).1
theorem RdAt.c0 {W : World} {rb : Nat} {T : ByteArray} {a : Nat} (h : RdAt W rb T a) : W.cell? ⟨rb, 0, none⟩ = some (.string T) := by simp [World.cell?, show W.heap[rb]? = _ from h]
theorem RdAt.c1 {W : World} {rb : Nat} {T : ByteArray} {a : Nat} (h : RdAt W rb T a) : W.cell? ⟨rb, 1, none⟩ = some (.int .i64 (a : Int)) := by simp [World.cell?, show W.heap[rb]? = _ from h]
theorem RdAt.fro {W : World} {rb : Nat} {T : ByteArray} {a : Nat} (h : RdAt W rb T a) (i : Nat) : W.frozen? ⟨rb, i, none⟩ = false := by simp [World.frozen?, show W.heap[rb]? = _ from h]
theorem RdAt.set {W : World} {rb : Nat} {T : ByteArray} {a : Nat} (h : RdAt W rb T a) (b : Nat) : RdAt (W.setCell ⟨rb, 1, none⟩ (.int .i64 (b : Int))) rb T b := by
  have h0 : W.heap[rb]? = _ := h
  unfold RdAt
  simp [World.setCell, Array.getElem?_modify, h0]
theorem RdAt.below {W W' : World} {rb : Nat} {T : ByteArray} {a : Nat} (h : RdAt W rb T a) (hb : Below W.heap.size W W') : RdAt W' rb T a := (hb.block rb h.lt).trans h
theorem RdAt.drewN {W : World} {rb : Nat} {T : ByteArray} {a : Nat} (h : RdAt W rb T a) (n : Nat) : RdAt (W.drewN n) rb T a := h.below (pw_below_drewN (Below.refl _ _) n)
/-- It has panicked: a fault of the syntax at this place. -/
def Broke (rb : Nat) (W : World) (p : Nat) (e : Ending) (W' : World) : Prop :=
  ∃ g, e = .panicked [{ v := .iface 51 (.pointer (some ⟨g, 0, none⟩)), recovered := false }] ∧ W.heap.size ≤ g ∧ W'.heap[g]? = some (.cells #[.int .i64 210, .int .i64 (p : Int)] 40 (0, 0)) ∧ Rf rb W W'
theorem Broke.after {rb : Nat} {A B W' : World} {p : Nat} {e : Ending} (h : Broke rb B p e W') (k : Rf rb A B) : Broke rb A p e W' := by
  obtain ⟨g, h1, h2, h3, h4⟩ := h
  exact ⟨g, h1, Nat.le_trans k.size h2, h3, k.trans h4⟩

set_option maxRecDepth 100000 in
set_option maxHeartbeats 2000000 in
theorem bad_calls (rb : Nat) (T : ByteArray) (a : Nat) (w : World) (hR : RdAt w rb T a) :
    Calls Try.prog 22 #[.pointer (some ⟨rb, 0, none⟩)] w fun e w' => Broke rb w a e w' := by
  have c1 := hR.c1
  go_enter Try.func22, Try.ntmps22
  go_wp2
  refine ⟨rfl, w.heap.size, rfl, Nat.le_refl _, ?_, ?_⟩
  · exact heap_alloc_new w _
  · exact Rf.of_below ((Below.refl _ w).alloc (Nat.le_refl _) _)

/-- The byte that stands there, or -1. -/
def byteAt (T : ByteArray) (a : Nat) : Int := match (bs T)[a]? with | some x => (x.toNat : Int) | none => -1
theorem byteAt_lt (T : ByteArray) (a : Nat) (h : a < T.size) : byteAt T a = ((T[a]'h).toNat : Int) := by
  have h' : a < (bs T).length := by rw [← size_bs]; exact h
  unfold byteAt
  rw [List.getElem?_eq_getElem h']
  rfl
theorem byteAt_end (T : ByteArray) : byteAt T T.size = -1 := by
  unfold byteAt
  rw [List.getElem?_eq_none (by rw [← size_bs]; exact Nat.le_refl _)]
set_option maxRecDepth 100000 in
set_option maxHeartbeats 2000000 in
theorem next_calls (rb : Nat) (T : ByteArray) (a : Nat) (w : World) (hR : RdAt w rb T a) (ha : a ≤ T.size) (hT : T.size ≤ 140737488355328) :
    Calls Try.prog 34 #[.pointer (some ⟨rb, 0, none⟩)] w fun e w' => e = .returned (.int .i64 (byteAt T a)) ∧ Drawn0 w w' := by
  have c0 := hR.c0
  have c1 := hR.c1
  go_enter Try.func34, Try.ntmps34
  by_cases hlt : a < T.size
  · have d1 : ((a : Int) == (T.size : Int)) = false := by rw [beq_eq_false_iff_ne]; omega
    have p1 : (0 ≤ (a : Int)) = True := eq_true (by omega)
    have q1 : ((a : Int) < (T.size : Int)) = True := eq_true (by omega)
    go_wp2
    repeat (go_quiet (fail); try go_wp2)
    go_ret
    refine ⟨?_, ((Drawn0.refl _).step _).step _⟩
    rw [byteAt_lt T a hlt]
    show Ending.returned (.int .i64 (wrap64 _)) = _
    rw [w64 (by omega) (by have := (T[a]'hlt).toNat_lt; omega)]
  · obtain rfl : a = T.size := by omega
    go_wp2
    repeat (go_quiet (fail); try go_wp2)
    go_ret
    refine ⟨?_, (Drawn0.refl _).step _⟩
    rw [byteAt_end]
    rfl
theorem drop_cons (T : ByteArray) (a : Nat) (h : a < T.size) : (bs T).drop a = (T[a]'h) :: (bs T).drop (a + 1) :=
  List.drop_eq_getElem_cons (show a < (bs T).length by rw [← size_bs]; exact h)
/-- What a call of the reader's that answers nothing leaves. -/
def After (rb : Nat) (T : ByteArray) (W : World) (r : Res Unit) (e : Ending) (W' : World) : Prop :=
  match r with
  | .ok _ rest => e = .returned (.tuple #[]) ∧ RdAt W' rb T (T.size - rest.length) ∧ rest.length ≤ T.size ∧ (bs T).drop (T.size - rest.length) = rest ∧ Rf rb W W'
  | .bad l => Broke rb W (T.size - l) e W'
set_option maxRecDepth 100000 in
set_option maxHeartbeats 4000000 in
theorem want_calls (rb : Nat) (T word : ByteArray) (a : Nat) (w : World) (hR : RdAt w rb T a) (ha : a ≤ T.size) (hT : T.size ≤ 140737488355328) (hw : word.size ≤ 1000) :
    Calls Try.prog 17 #[.pointer (some ⟨rb, 0, none⟩), .string word] w fun e w' => After rb T w (wordL (bs word) ((bs T).drop a)) e w' := by
  go_enter Try.func17, Try.ntmps17
  go_wp2
  go_loopg [7] word.size (fun g v7 wx => ∃ i : Nat, i + g = word.size ∧ v7 = .int .i64 (i : Int) ∧ a + i ≤ T.size ∧ Aside0 (RdAt wx rb T (a + i)) ∧ Aside0 (Rf rb w wx) ∧ Aside0 (wordL (bs word) ((bs T).drop a) = wordL ((bs word).drop i) ((bs T).drop (a + i))))
  case atStart => exact ⟨0, by omega, rfl, by omega, ⟨hR⟩, ⟨Rf.refl _ _⟩, ⟨rfl⟩⟩
  case round =>
    obtain ⟨i, hig, rfl, hai, HR, HF, HM⟩ := hrel
    cases gk with
    | zero =>
      obtain rfl : i = word.size := by omega
      go_wp2
      go_end0
      have hm := HM.out
      rw [List.drop_of_length_le (show (bs word).length ≤ word.size by rw [size_bs]; exact Nat.le_refl _)] at hm
      rw [hm]
      have e1 : ((bs T).drop (a + word.size)).length = T.size - (a + word.size) := by rw [List.length_drop, ← size_bs]
      have e2 : T.size - ((bs T).drop (a + word.size)).length = a + word.size := by omega
      exact ⟨rfl, by rw [e2]; exact HR.out, by omega, by rw [e2], HF.out⟩
    | succ k1 =>
      have hi : i < word.size := by omega
      have d1 : decide ((i : Int) < (word.size : Int)) = true := decide_eq_true (by omega)
      have p1 : (0 ≤ (i : Int)) = True := eq_true (by omega)
      have q1 : ((i : Int) < (word.size : Int)) = True := eq_true (by omega)
      have hmx : Try.prog.follows .mixedOrders = true := by kernel_rfl
      go_wp2
      go_quiet ((go_at_call 34; refine (next_calls rb T (a + i) _ (HR.out.drewN _) hai hT).mono ?_; rintro e w2 ⟨rfl, ⟨nd, rfl⟩⟩; first | exact ⟨rfl, _, World.drewN_drewN _ _ _⟩ | exact ⟨rfl, _, Eq.trans (World.drewN_drewN _ _ _) (congrArg (World.drewN _) (Nat.add_assoc _ _ _))⟩))
      have hwi : wrap64 (((word[i]'hi).toNat : Nat) : Int) = ((word[i]'hi).toNat : Int) := w64 (by omega) (by have := (word[i]'hi).toNat_lt; omega)
      have edw : (bs word).drop i = (word[i]'hi) :: (bs word).drop (i + 1) := drop_cons word i hi
      by_cases hlt : a + i < T.size
      · have edt := drop_cons T (a + i) hlt
        by_cases heq : T[a + i]'hlt = word[i]'hi
        · have c1 : (byteAt T (a + i) != wrap64 (((word[i]'hi).toNat : Nat) : Int)) = false := by rw [byteAt_lt T _ hlt, hwi, heq]; simp
          have HR2 := Aside0.mk (HR.out.drewN nq)
          have r1 := HR2.out.c1
          have r2 := HR2.out.fro 1
          go_wp2
          go_roundg k1
          case measure => omega
          case rel =>
            refine ⟨i + 1, by omega, rfl, by omega, ⟨?_⟩, ⟨(HF.out.trans (Rf.of_below (pw_below_drewN (Below.refl _ _) nq))).set 1 _⟩, ⟨?_⟩⟩
            · have h := HR2.out.set (a + (i + 1))
              have ec : ((a + (i + 1) : Nat) : Int) = (a : Int) + (i : Int) + 1 := by omega
              rw [ec] at h
              exact h
            · rw [HM.out, edw, edt, heq, wordL, if_pos rfl]
              rfl
        · have c1 : (byteAt T (a + i) != wrap64 (((word[i]'hi).toNat : Nat) : Int)) = true := by
            rw [byteAt_lt T _ hlt, hwi, bne_iff_ne]
            exact fun e => heq ((byte_eq_iff _ _).1 e)
          have HR2 := Aside0.mk (HR.out.drewN nq)
          go_wp2_with (go_at_call 22; refine (bad_calls rb T (a + i) _ HR2.out).mono ?_; rintro e w2 ⟨g, rfl, hg1, hg2, hg3⟩)
          refine ⟨rfl, ?_⟩
          rw [HM.out, edw, edt, wordL, if_neg heq]
          have e1 : T.size - (((bs T).drop (a + i + 1)).length + 1) = a + i := by rw [List.length_drop, ← size_bs]; omega
          show Broke rb w _ _ _
          rw [e1]
          exact Broke.after (B := wr.drewN nq) ⟨g, rfl, hg1, hg2, hg3⟩ (HF.out.trans (Rf.of_below (pw_below_drewN (Below.refl _ _) nq)))
      · have heq : a + i = T.size := by omega
        have c1 : (byteAt T (a + i) != wrap64 (((word[i]'hi).toNat : Nat) : Int)) = true := by
          rw [heq, byteAt_end, hwi, bne_iff_ne]
          omega
        have HR2 := Aside0.mk (HR.out.drewN nq)
        go_wp2_with (go_at_call 22; refine (bad_calls rb T (a + i) _ HR2.out).mono ?_; rintro e w2 ⟨g, rfl, hg1, hg2, hg3⟩)
        refine ⟨rfl, ?_⟩
        rw [HM.out, edw, List.drop_of_length_le (show (bs T).length ≤ a + i by rw [← size_bs]; omega), wordL]
        show Broke rb w (T.size - 0) _ _
        rw [Nat.sub_zero, ← heq]
        exact Broke.after (B := wr.drewN nq) ⟨g, rfl, hg1, hg2, hg3⟩ (HF.out.trans (Rf.of_below (pw_below_drewN (Below.refl _ _) nq)))
end Go.Proofs.Ytdkkgeibifpgiaa.Rc
