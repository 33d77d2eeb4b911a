/- Texts of this claim, put together: Bytes, Ord, WordsMore, Q0, Kit, ExtContains, Q11, ExtJoin, Q21, LoopAb, Pieces, SplitSeq, NameBoxes, Q23, Q30, NamePureD. -/
import Derived.Test.YtabgpdpdgkgmbaaDoorWWords
import Derived.Test.YtabgpdpdgkgmbaaDoorWLast
import Derived.Lib.SmallJoins
import Derived.Lib.Bytealg
import Derived.Test.YtabgpdpdgkgmbaaDoorWMore
import Derived.Lib.AppendStr
import Derived.Test.YtabgpdpdgkgmbaaDoorProg
import Derived.Below
import Derived.Deep.Draws
import Derived.Deep.AppendLies
import Derived.Maps.AppendAt
import Derived.OwnWalk
import Derived.Laws.BytesArg
import Derived.Laws.MakeOwn
import Derived.Laws.OwnMore
import Derived.Deep.OwnRows
import Derived.Tactics
import Derived.Lib.ConvBytes
import Derived.Laws.Slices
import Derived.WalkKit
import Derived.KernelRfl
import Derived.RowKit3
import Derived.Deep.LoopGhost
import Derived.Deep.QuietTactic
import Derived.BigQuiet
import Derived.WideLaws
import Derived.Deep.DeepCutAuto
import Derived.Deep.CutBlock
import Derived.Deep.RegionHeld3
import Derived.Laws.Rows
import Derived.ArgAppend
import Derived.Laws.IdiomCopy
import Derived.OrdersHeld
import Derived.Laws.BitsLemmas
import Derived.RowKit
import Derived.Test.YtabgpdpdgkgmbaaDoorWTab
import Derived.Test.YtabgpdpdgkgmbaaDoorWFour
import Derived.Test.YtabgpdpdgkgmbaaDoorWQPut
import Derived.Test.YtabgpdpdgkgmbaaDoorWApart
import Derived.Test.YtabgpdpdgkgmbaaDoorWArr
import Derived.Test.YtabgpdpdgkgmbaaDoorWZeros
import Derived.Test.YtabgpdpdgkgmbaaDoorWFoot
import Derived.Test.YtabgpdpdgkgmbaaDoorWKept
import Derived.Test.YtabgpdpdgkgmbaaDoorWShare
import Derived.Test.YtabgpdpdgkgmbaaDoorWN
import Derived.Test.YtabgpdpdgkgmbaaDoorWFootNe
import Derived.Test.YtabgpdpdgkgmbaaDoorWAt
import Derived.Test.YtabgpdpdgkgmbaaDoorWEqStruct
import Derived.Test.YtabgpdpdgkgmbaaDoorWRepsOne
import Derived.Test.YtabgpdpdgkgmbaaDoorWInv
import Derived.Test.YtabgpdpdgkgmbaaDoorWInvWords
import Derived.Test.YtabgpdpdgkgmbaaDoorWGuard
import Derived.Test.YtabgpdpdgkgmbaaDoorWNEv
import Derived.Test.YtabgpdpdgkgmbaaDoorShelf
import Derived.WalkMore
import Derived.IntWalk
import Derived.Laws.Runes
import Derived.Laws.RangeAny
import Derived.Laws.RangeString
import Derived.Lib.IndexAny
import Derived.Lib.IndexBytes
import Derived.Lib.OthersKept
import Derived.Lib.RuneCount
import Derived.RangeFuncFrom
import Derived.Lib.IndexLaws
import Derived.RangeFuncNested
import Derived.RangeFuncBound
import Derived.RangeFuncCalls
import Derived.RangeFuncLeaves
import Derived.RangeFuncBox
import Derived.Shelf.Abstract
import Derived.Shelf.RegionOpen
import Derived.OwnWalkIn
import Derived.TacticsInMore
import Derived.LoopNIn
import Derived.LoopIn
/- Plain lemmas on strings as lists of bytes; no program in sight. -/
set_option linter.unusedVariables false
set_option linter.unusedSimpArgs false
namespace Go.Proofs.YtabgpdpdgkgmbaaDoor.Bytes
open Go.RowKit Go.Proofs.YtabgpdpdgkgmbaaDoorW.PrintWords

/-- The bytes of a string. -/
def bs (s : ByteArray) : List UInt8 := s.data.toList
theorem toList_bs (s : ByteArray) : s.toList = bs s := ByteArray.toList_eq s
theorem size_bs (s : ByteArray) : s.size = (bs s).length := by
  simp only [bs, Array.length_toList]
  rfl
theorem bs_append (a b : ByteArray) : bs (a ++ b) = bs a ++ bs b := by
  obtain ⟨a⟩ := a
  obtain ⟨b⟩ := b
  rw [bs, ByteArray.mk_append_mk]
  simp [bs]
theorem bs_extract (s : ByteArray) (i j : Nat) : bs (s.extract i j) = ((bs s).drop i).take (j - i) := by
  simp [bs, ByteArray.data_extract, Array.toList_extract, List.extract]
theorem bs_mk (l : List UInt8) : bs ⟨l.toArray⟩ = l := by simp [bs]
theorem bs_inj {a b : ByteArray} (h : bs a = bs b) : a = b := by
  obtain ⟨a⟩ := a
  obtain ⟨b⟩ := b
  simp only [bs] at h
  congr 1
  exact Array.toList_inj.1 h
theorem bs_eq_iff (a b : ByteArray) : bs a = bs b ↔ a = b := ⟨bs_inj, fun h => by rw [h]⟩
/-- Byte i, as a number; 0 outside. -/
theorem bt_bs (s : ByteArray) (i : Int) : bt s i = (((bs s).getD i.toNat 0).toNat : Int) := by
  unfold bt
  split
  · rename_i h
    have h' : i.toNat < (bs s).length := by rw [← size_bs]; exact h
    rw [List.getD_eq_getElem?_getD, List.getElem?_eq_getElem h']
    simp only [Option.getD_some]
    rfl
  · rename_i h
    have h' : (bs s).length ≤ i.toNat := by rw [← size_bs]; omega
    rw [List.getD_eq_getElem?_getD, List.getElem?_eq_none h']
    rfl
theorem w64 {x : Int} (h0 : -9223372036854775808 ≤ x) (h1 : x ≤ 9223372036854775807) : wrap64 x = x := by
  unfold wrap64
  omega
theorem byte_eq_iff (x y : UInt8) : ((x.toNat : Int) = (y.toNat : Int)) ↔ x = y := by
  constructor
  · intro h
    exact UInt8.toNat_inj.1 (by omega)
  · intro h
    rw [h]
end Go.Proofs.YtabgpdpdgkgmbaaDoor.Bytes
/- Strings' order: '<=' and '>' in the words of '<' alone, for the walks of this seat. -/
set_option linter.unusedVariables false
set_option linter.unusedSimpArgs false
namespace Go.Proofs.YtabgpdpdgkgmbaaDoor.Ord
open Go

theorem less_total : ∀ (a b : List UInt8), (Op.bytesLess a b || a == b) = !Op.bytesLess b a
  | [], [] => by simp [Op.bytesLess]
  | [], _ :: _ => by simp [Op.bytesLess]
  | _ :: _, [] => by simp [Op.bytesLess]
  | x :: a, y :: b => by
    have ih := less_total a b
    simp only [Op.bytesLess]
    by_cases h : x = y
    · subst h
      have : ¬ x < x := by rw [UInt8.lt_iff_toNat_lt]; omega
      simp only [this, decide_false, Bool.false_or, beq_self_eq_true, Bool.true_and]
      rw [← ih]
      congr 1
      rw [Bool.eq_iff_iff]
      simp
    · have hn : ¬ x.toNat = y.toNat := fun e => h (UInt8.toNat_inj.1 e)
      have e1 : (x == y) = false := beq_eq_false_iff_ne.2 h
      have e2 : (y == x) = false := beq_eq_false_iff_ne.2 (fun e => h e.symm)
      have e3 : (x :: a == y :: b) = false := by rw [beq_eq_false_iff_ne]; intro e; injection e with e _; exact h e
      rw [e1, e2, e3]
      simp only [Bool.false_and, Bool.or_false]
      rw [Bool.eq_iff_iff]
      simp only [decide_eq_true_eq, Bool.not_eq_true', decide_eq_false_iff_not, UInt8.lt_iff_toNat_lt]
      omega
theorem str_leq (t : TypeId) (a b : ByteArray) : binOp .leq t (.string a) (.string b) = pure (.bool (!Op.bytesLess b.toList a.toList)) := by
  simp [binOp, Op.stringOp, ← less_total]
theorem str_gtr (t : TypeId) (a b : ByteArray) : binOp .gtr t (.string a) (.string b) = pure (.bool (Op.bytesLess b.toList a.toList)) := by
  have := less_total a.toList b.toList
  simp [binOp, Op.stringOp] 
  cases h1 : Op.bytesLess a.toList b.toList <;> cases h2 : (a.toList == b.toList) <;> cases h3 : Op.bytesLess b.toList a.toList <;> simp_all
theorem str_geq (t : TypeId) (a b : ByteArray) : binOp .geq t (.string a) (.string b) = pure (.bool !(Op.bytesLess a.toList b.toList)) := by simp [binOp, Op.stringOp]
/-- The order of three answers. -/
theorem compare_less : ∀ (a b : List UInt8), (Op.bytesLess a b = true ↔ Lib.compareBytes a b = -1)
  | [], [] => by simp [Op.bytesLess, Lib.compareBytes]
  | [], _ :: _ => by simp [Op.bytesLess, Lib.compareBytes]
  | _ :: _, [] => by simp [Op.bytesLess, Lib.compareBytes]
  | x :: a, y :: b => by
    have ih := compare_less a b
    simp only [Op.bytesLess, Lib.compareBytes, Bool.or_eq_true, Bool.and_eq_true, decide_eq_true_eq, beq_iff_eq]
    by_cases h : x < y
    · simp [h]
    · by_cases h2 : y < x
      · have : ¬ x = y := by intro e; subst e; exact h h2
        simp [h, h2, this]
      · have e : x = y := by
          rw [UInt8.lt_iff_toNat_lt] at h h2
          exact UInt8.toNat_inj.1 (by omega)
        subst e
        simp [h, ih]
theorem compare_eq : ∀ (a b : List UInt8), (Lib.compareBytes a b = 0 ↔ a = b)
  | [], [] => by simp [Lib.compareBytes]
  | [], _ :: _ => by simp [Lib.compareBytes]
  | _ :: _, [] => by simp [Lib.compareBytes]
  | x :: a, y :: b => by
    have ih := compare_eq a b
    simp only [Lib.compareBytes]
    by_cases h : x < y
    · have : ¬ x = y := by intro e; subst e; rw [UInt8.lt_iff_toNat_lt] at h; omega
      simp [h, this]
    · by_cases h2 : y < x
      · have : ¬ x = y := by intro e; subst e; exact h h2
        simp [h, h2, this]
      · have e : x = y := by
          rw [UInt8.lt_iff_toNat_lt] at h h2
          exact UInt8.toNat_inj.1 (by omega)
        subst e
        simp [h, ih]
theorem compare_range : ∀ (a b : List UInt8), Lib.compareBytes a b = -1 ∨ Lib.compareBytes a b = 0 ∨ Lib.compareBytes a b = 1
  | [], [] => by simp [Lib.compareBytes]
  | [], _ :: _ => by simp [Lib.compareBytes]
  | _ :: _, [] => by simp [Lib.compareBytes]
  | x :: a, y :: b => by
    have ih := compare_range a b
    simp only [Lib.compareBytes]
    split
    · simp
    · split
      · simp
      · exact ih
end Go.Proofs.YtabgpdpdgkgmbaaDoor.Ord
/- Words beside the print's: a slice made with no element and a capacity of its own; a string appended beside other rows. -/
set_option linter.unusedVariables false
set_option linter.unusedSimpArgs false
namespace Go.Proofs.YtabgpdpdgkgmbaaDoorW.PrintWords
open Go.RowKit
namespace Kd
section
variable {P : Program} {ops : Array Oper} {rest : List Oper} {o : Oper} {a : Act} {Q : Exit → Act → World → Prop}
variable {α : Type}
/-- make([]T, 0, n): no element, room for n. -/
theorem R_make0 (d : Kd α) {w0 W : World} (base e : Nat) (hgd : o.guard = none) {N : Tmp} (hd : o.dst = some N) (t : TypeId) (x y : Operand) (ho : o.op = .makeSlice t x y) (n : Int) (hx : a.eval x = .int .i64 0) (hy : a.eval y = .int .i64 n)
    (ht : P.underlying t = some (.slice e)) (z : Value) (bytes : Nat) (hinfo : (P.info? e).map (fun i => (i.zero, i.size, i.bytes)) = some (some z, d.sz, bytes)) (hz : z.cells.size = d.sz) (hs0 : 0 < d.sz) (hb0 : 0 < bytes)
    (z0 : α) {ok okp : Nat → Prop} (hzero : d.M W base okp z0 z.cells.toList) (hok : ∀ k, okp k → ok k) (hfresh : ok W.heap.size) (h0 : 0 ≤ n) (hl : n.toNat * bytes ≤ 281474976710656) (HB : Below base w0 W) (hbase : base ≤ W.heap.size)
    (h : ∀ v1 w1, d.R e w1 base ok v1 ([] : List α) → Below base w0 w1 → W.grownBy w1 none → (∃ b, v1.ownBlock = some b ∧ W.heap.size ≤ b) → wpList P ops Q rest (a.put o.dst v1) w1) : wpList P ops Q (o :: rest) a W := by
  obtain ⟨m, rfl⟩ := Int.eq_ofNat_of_zero_le h0
  simp only [Int.toNat_natCast] at hl
  obtain ⟨i0, hi, hzz⟩ := Option.map_eq_some_iff.1 hinfo
  simp only [Prod.mk.injEq] at hzz
  obtain ⟨hz0, hz1, hz2⟩ := hzz
  have hm : m ≤ 281474976710656 := Nat.le_trans (Nat.le_mul_of_pos_right _ hb0) hl
  have hr := run_make (P := P) W t e i0 z ht hi hz0 .i64 .i64 0 (m : Int) (by omega) (by omega)
    (by
      have h3 : ((i0.bytes * m : Nat) : Int) ≤ 281474976710656 := by rw [hz2, Nat.mul_comm]; omega
      rwa [Int.natCast_mul] at h3) (by omega)
  simp only [Int.toNat_natCast] at hr
  have hrun : (execOp a.eval o).run P W = .ok (.value (.slice (some ⟨W.heap.size, 0, none⟩) 0 m)) (W.alloc (.cells (madeCells z.cells (m * i0.size)) e)) := by
    simp [execOp, ho, hx, hy, hr]
  refine event_run hgd hrun (h _ _ ⟨fun k hk => ?_, [], ?_, Reps.none _ _⟩ (HB.alloc hbase _) (World.grownBy_alloc W _ none) ⟨W.heap.size, by simp [Value.ownBlock], Nat.le_refl _⟩)
  · have : W.heap.size = k := by simpa [Value.ownBlock] using hk
    subst this
    exact hfresh
  · refine ⟨by simp, .inr ⟨W.heap.size, m, madeCells z.cells (m * i0.size), rfl, hbase, ?_, Nat.zero_le _, by unfold maxLen; omega, ?_, by simp⟩⟩
    · show (W.heap.push _)[W.heap.size]? = _
      simp
    · rw [hz1, size_madeCells]
/-- append(b, s...), s a string: with word on where the row lies. -/
theorem run_append_str_at {w : World} (base : Nat) (t u ty e : TypeId) (i : TypeInfo) (ht : P.underlying t = some (.slice e)) (hu : P.underlying u = some .string) (hi : P.info? e = some i) (hz : i.zero = some (.int .u8 0))
    (hsize : i.size = 1) (hby : i.bytes = 1) (v : Value) (n : Nat) (xs : List Value) (hown : w.ownsRow base e 1 v n xs) (s : ByteArray) (h63 : n + s.size ≤ maxLen) (hbytes : n + s.size ≤ 140737488355328) (hbase : base ≤ w.heap.size) :
    ∃ v' w', (Builtin.append_ #[t, u] ty #[v, .string s]).run P w = .ok v' w' ∧ w'.ownsRow base e 1 v' (n + s.size) (xs ++ Lib.strCells s) ∧ w.grownBy w' v.ownBlock ∧ (v'.ownBlock = v.ownBlock ∨ ∃ b, v'.ownBlock = some b ∧ w.heap.size ≤ b) := by
  rcases hown.2 with ⟨rfl, rfl⟩ | ⟨g, cap, cur, rfl, hbg, hg, hnc, hcm, hcs, htk⟩
  · obtain rfl : xs = [] := List.eq_nil_of_length_eq_zero (by simpa using hown.1)
    obtain ⟨v', w', hr, ho, hgr, _⟩ := Lib.run_append_own_string (P := P) w w.heap.size t u ty e i ht hu hi hz hsize hby (.slice none 0 0) 0 [] (World.ownsRow_nil w _ e 1) s h63 hbytes (Nat.le_refl _)
    refine ⟨v', w', hr, ⟨ho.1, ?_⟩, hgr, ?_⟩
    · rcases ho.2 with h | ⟨g, cap, cur, h1, h2, h3⟩
      · exact .inl h
      · exact .inr ⟨g, cap, cur, h1, Nat.le_trans hbase h2, h3⟩
    · rcases ho.2 with h | ⟨g, cap, cur, h1, h2, h3⟩
      · left; rw [h.1]
      · right; exact ⟨g, by rw [h1]; rfl, h2⟩
  · obtain ⟨v', w', hr, ho, hgr, _⟩ := Lib.run_append_own_string (P := P) w base t u ty e i ht hu hi hz hsize hby _ n xs hown s h63 hbytes hbase
    refine ⟨v', w', hr, ho, hgr, ?_⟩
    by_cases hroom : n + s.size ≤ cap
    · have h2 := Lib.run_append_room_string (P := P) w t u ty e i ht hu hi hsize g n cap cur hg s hroom (by omega)
      rw [hr] at h2
      injection h2 with h2 _
      left; rw [h2]; rfl
    · have h2 := Lib.run_append_grow_string (P := P) w t u ty e i (.int .u8 0) ht hu hi hz ⟨g, 0, none⟩ n cap xs (by rw [hsize]; exact hown.1) (fun j q hj => hown.cells (g := g) rfl j q hj) s (by omega) (by simp only [maxLen] at h63; omega) (growslice_fits (by omega) (by rw [hby]; omega))
      rw [hr] at h2
      injection h2 with h2 _
      right; exact ⟨w.heap.size, by rw [h2]; rfl, Nat.le_refl _⟩
theorem R_append_str {w0 W : World} (base : Nat) (hgd : o.guard = none) (s x : Operand) (t u e : TypeId)
    (ho : o.op = .call { callee := .builtin .append, args := #[s, x], argTypes := #[t, u] })
    (ht : P.underlying t = some (.slice e)) (hu : P.underlying u = some .string) (hinfo : (P.info? e).map (fun i => (i.zero, i.size, i.bytes)) = some (some (.int .u8 0), 1, 1))
    (v : Value) (xs : List Int) (y : ByteArray) (ok : Nat → Prop) (hs : a.eval s = v) (hx : a.eval x = .string y) (hfresh : ∀ k, W.heap.size ≤ k → ok k)
    (HO : (Kd.int .u8).R e W base ok v xs) (HB : Below base w0 W) (hbase : base ≤ W.heap.size) (hl : xs.length + y.size ≤ 140737488355328)
    (h : ∀ v1 w1, (Kd.int .u8).R e w1 base ok v1 (xs ++ bytesOf y) → Below base w0 w1 → W.grownBy w1 v.ownBlock → (v1.ownBlock = v.ownBlock ∨ ∃ b, v1.ownBlock = some b ∧ W.heap.size ≤ b) → wpList P ops Q rest (a.put o.dst v1) w1) :
    wpList P ops Q (o :: rest) a W := by
  obtain ⟨i0, hi, hzz⟩ := Option.map_eq_some_iff.1 hinfo
  simp only [Prod.mk.injEq] at hzz
  obtain ⟨hz0, hz1, hz2⟩ := hzz
  have hown := Kd.own_of_R HO
  refine wpList_plain hgd fun K hK => ?_
  obtain ⟨v', w', hr, h2, h3, h4⟩ := run_append_str_at (P := P) (w := W) base t u o.type e i0 ht hu hi hz0 hz1 hz2 v xs.length _ hown y (by simp only [maxLen]; omega) hl hbase
  have hl2 : (xs ++ bytesOf y).length = xs.length + y.size := by rw [List.length_append, bytesOf_length]
  have hc : encs (Value.int .u8) (xs ++ bytesOf y) = encs (Value.int .u8) xs ++ Lib.strCells y := by
    simp [encs, bytesOf, Lib.strCells]
  have hR : (Kd.int .u8).R e w' base ok v' (xs ++ bytesOf y) := by
    refine Kd.R_of_own (h1 := fun _ => rfl) (by rw [hl2, hc]; exact h2) ?_
    intro k hk
    rcases h4 with h4 | ⟨b, h4, h5⟩
    · exact HO.1 k (by rw [← h4]; exact hk)
    · rw [h4] at hk
      injection hk with hk
      exact hk ▸ hfresh b h5
  unfold Oper.wp execOp
  simp only [ho, resolve, invoke, builtin, Sem.run_bind, Sem.run_pure, Result.andThen_ok, List.map_toArray, List.map_cons, List.map_nil, hs, hx, hr]
  exact hK _ _ (h v' w' hR (HB.grown h3 hbase (own_base hown)) h3 h4)
end
end Kd
end Go.Proofs.YtabgpdpdgkgmbaaDoorW.PrintWords
/- By a program of this session's: a plain Lean function for a Go function, and its contract. -/
namespace Go.Proofs.YtabgpdpdgkgmbaaDoor.Q
open Go.RowKit Go.Proofs.YtabgpdpdgkgmbaaDoorW.PrintWords Go.Proofs.YtabgpdpdgkgmbaaDoorW.PrintLast Go.Proofs.YtabgpdpdgkgmbaaDoorW.PrintMore
attribute [local go_sem] max2_int min2_int max_two min_two max_three min_three max_four min_four Go.Proofs.YtabgpdpdgkgmbaaDoor.Ord.str_leq Go.Proofs.YtabgpdpdgkgmbaaDoor.Ord.str_gtr Go.Proofs.YtabgpdpdgkgmbaaDoor.Ord.str_geq   -- for this text's walks alone
set_option linter.unusedVariables false
set_option linter.unusedSimpArgs false



def errW : Option Int → Value
  | none => .nilIface
  | some c => .iface 0 (.int .i64 c)
theorem errW_none : errW none = .nilIface := rfl
theorem errW_some (c : Int) : errW (some c) = .iface 0 (.int .i64 c) := rfl

theorem info9 : (Tryd.prog.info? 9).map (fun i => (i.zero, i.size, i.bytes)) = some (some (.string ⟨#[]⟩), 1, 16) := by kernel_rfl
-- the values' own types
def rd_L1 (xs : List (List ByteArray)) (i : Int) : (List ByteArray) := xs.getD i.toNat ([] : List ByteArray)
theorem at_L1 {w : World} {A : Option Addr} {n : Nat} {xs : List (List ByteArray)} (h : Kd.C (Kd.slice 9 Kd.string) w A n xs) (i : Int) (h0 : 0 ≤ i) (h1 : i < n) : ∃ ad A0 c0, A = some ad ∧ w.cell? (ad.add i.toNat) = some (.slice A0 (rd_L1 xs i).length c0) ∧ (rd_L1 xs i).length ≤ c0 ∧ Kd.string.C w A0 (rd_L1 xs i).length (rd_L1 xs i) := by
  obtain ⟨ad, c, e, _, hK, hc0⟩ := Kd.C_get h ([] : List ByteArray) i h0 h1
  have hc : ∀ j u, c[j]? = some u → w.cell? (ad.add (i.toNat * 1 + j)) = some u := hc0
  obtain ⟨A0, c0, rfl, l0, g0⟩ := hK
  exact ⟨ad, A0, c0, e, by have hq := hc 0 _ rfl; rwa [Nat.mul_one, Nat.add_zero] at hq, l0, g0⟩

/-! #### struct type 26 -/
structure S26 where
  f0 : Int
  f1 : Int
def z26 : S26 := ⟨(0 : Int), (0 : Int)⟩
def k26 : Kd S26 := Kd.iso (Kd.pair (Kd.int .i64) (Kd.int .i64)) (fun x : S26 => (x.f0, x.f1))
theorem k26_open {w : World} {x : S26} {cs : List Value} (h : k26.K w x cs) : cs = [.int .i64 x.f0, .int .i64 x.f1] := by
  obtain ⟨_, _, rfl, rfl, rfl⟩ := h
  exact rfl
theorem k26_openM {w : World} {base : Nat} {ok : Nat → Prop} {x : S26} {cs : List Value} (h : k26.M w base ok x cs) : cs = [.int .i64 x.f0, .int .i64 x.f1] := by
  obtain ⟨_, _, rfl, rfl, rfl⟩ := h
  exact rfl
theorem k26_mk (w : World) (x : S26)  : k26.K w x [.int .i64 x.f0, .int .i64 x.f1] := ⟨[.int .i64 x.f0], [.int .i64 x.f1], rfl, rfl, rfl⟩
theorem k26_mkM (w : World) (base : Nat) (ok : Nat → Prop) (x : S26)  : k26.M w base ok x [.int .i64 x.f0, .int .i64 x.f1] := ⟨[.int .i64 x.f0], [.int .i64 x.f1], rfl, rfl, rfl⟩
def rd_T26 (xs : List S26) (i : Int) : S26 := xs.getD i.toNat z26
theorem at_T26 {w : World} {A : Option Addr} {n : Nat} {xs : List S26} (h : Kd.C k26 w A n xs) (i : Int) (h0 : 0 ≤ i) (h1 : i < n) : ∃ ad , A = some ad ∧ w.cell? (ad.add (i.toNat * 2)) = some (.int .i64 (rd_T26 xs i).f0) ∧ w.cell? ⟨(ad.add (i.toNat * 2)).block, (ad.add (i.toNat * 2)).off + 1, none⟩ = some (.int .i64 (rd_T26 xs i).f1) := by
  obtain ⟨ad, c, e, _, hK, hc0⟩ := Kd.C_get h z26 i h0 h1
  have hc : ∀ j u, c[j]? = some u → w.cell? (ad.add (i.toNat * 2 + j)) = some u := hc0
  obtain rfl := k26_open hK
  exact ⟨ad, e, hc 0 _ rfl, by rw [← add_field _ _ 1 (by omega)]; exact hc 1 _ rfl⟩

end Go.Proofs.YtabgpdpdgkgmbaaDoor.Q
/- Small helpers of the walks: quiet calls behind draws. -/
set_option linter.unusedVariables false
set_option linter.unusedSimpArgs false
namespace Go.Proofs.YtabgpdpdgkgmbaaDoor.Kit
open Go Go.RowKit
variable {P : Program} {f : FuncId} {args : Array Value} {w : World} {a n : Nat} {v : Value}
theorem quiet_more (h : Calls P f args (w.drewN (a + n)) fun e w' => e = .returned v ∧ ∃ m, w' = (w.drewN (a + n)).drewN m) :
    Calls P f args (w.drewN (a + n)) fun e w'' => e = .returned v ∧ ∃ m, w'' = w.drewN (a + m) :=
  h.mono fun _ _ ⟨he, m, hm⟩ => ⟨he, n + m, by rw [hm, World.drewN_drewN, Nat.add_assoc]⟩
theorem quiet_more_same (h : Calls P f args (w.drewN (a + n)) fun e w' => e = .returned v ∧ w' = w.drewN (a + n)) :
    Calls P f args (w.drewN (a + n)) fun e w'' => e = .returned v ∧ ∃ m, w'' = w.drewN (a + m) :=
  h.mono fun _ _ ⟨he, hm⟩ => ⟨he, n, hm⟩
end Go.Proofs.YtabgpdpdgkgmbaaDoor.Kit
/- strings.ContainsAny at the bytes that no name may hold ('/' and 0), for every text of at most 255 bytes, ASCII or not. -/
namespace Go.Proofs.YtabgpdpdgkgmbaaDoor.Q
open Go.RowKit Go.Proofs.YtabgpdpdgkgmbaaDoorW.PrintWords Go.Proofs.YtabgpdpdgkgmbaaDoorW.PrintLast Go.Proofs.YtabgpdpdgkgmbaaDoorW.PrintMore Go.Proofs.YtabgpdpdgkgmbaaDoor.Bytes
set_option linter.unusedVariables false
set_option linter.unusedSimpArgs false

set_option maxRecDepth 1000000 in
set_option maxHeartbeats 8000000 in
/-- A rune beyond ASCII doesn't stand in an ASCII text. -/
theorem indexRune_high (t : ByteArray) (ht : t.size ≤ 1000) (ha : ∀ (j : Nat) b, t.data.toList[j]? = some b → b.toNat < 128) (r : Int) (h1 : 128 ≤ r) (h2 : r ≤ 2147483647) (w : World) :
    Calls Tryd.prog 35 #[.string t, .int .i32 r] w fun e w' => e = .returned (.int .i64 (-1)) ∧ Below w.heap.size w w' := by
  have HA := Aside0.mk ha
  clear ha
  by_cases he : r = 65533
  · subst he
    go_enter Tryd.func35, Tryd.ntmps35
    go_wp2
    repeat (go_step3; go_wp2)
    go_loopg [176, 177, 178, 179, 180, 181, 5, 6] t.size (fun g v1 v2 v3 v4 v5 v6 v7 v8 wx => ∃ i : Nat, i + g = t.size ∧ wx = w.iter t i)
    case atStart => exact ⟨0, by omega, rfl⟩
    case round =>
      obtain ⟨i, hig, rfl⟩ := hrel
      cases gk with
      | zero =>
        obtain rfl : i = t.size := by omega
        have hnx := run_next_end (P := Tryd.prog) w t t.size
        go_wp2
        repeat (first | (rw [Exit.noGoto_ret]; try go_wp2) | fail)
        go_ret
        exact ⟨rfl, (Below.refl _ _).alloc (Nat.le_refl _) _⟩
      | succ g =>
        have hi : i < t.size := by omega
        obtain ⟨x, hx⟩ : ∃ x : UInt8, t[i]'hi = x := ⟨_, rfl⟩
        have hx128 : x.toNat < 128 := HA.out i x (by rw [← hx]; exact Lib.data_getElem? t i hi)
        have hnx := fun ty => run_next_ascii (P := Tryd.prog) w t i ty hi (by rw [hx]; exact hx128)
        rw [hx] at hnx
        clear hx
        have bx : ((x.toNat : Int) == 65533) = false := beq_eq_false_iff_ne.2 (by omega)
        go_wp2
        go_roundg g
        case measure => omega
        case rel => exact ⟨i + 1, by omega, rfl⟩
  · have d1 : decide (r < 128) = false := decide_eq_false (by omega)
    have b1 : (r == 65533) = false := beq_eq_false_iff_ne.2 he
    cases hv : Lib.validRune r with
    | false =>
      go_enter Tryd.func35, Tryd.ntmps35
      go_wp2_with (go_at_call 44; refine (Tryd.utf8_ValidRune _ _).mono ?_; rintro e w' ⟨rfl, hw⟩; rw [hw, hv])
      repeat (go_step3; go_wp2_with (go_at_call 44; refine (Tryd.utf8_ValidRune _ _).mono ?_; rintro e w' ⟨rfl, hw⟩; rw [hw, hv]))
      go_ret
      exact ⟨rfl, Below.refl _ _⟩
    | true =>
      have hv2 : Utf8.valid r = true := by
        rw [validRune_eq]
        unfold Lib.validRune at hv
        unfold validRune
        simp at hv ⊢
        omega
      obtain ⟨E, hE⟩ : ∃ E, Utf8.encode r = E := ⟨_, rfl⟩
      have hf := encode_facts r hv2 h1
      rw [hE] at hf
      obtain ⟨f1, f2, f3⟩ := hf
      clear hv2
      obtain ⟨m, hm⟩ : ∃ m, E.size = m + 1 := ⟨E.size - 1, by omega⟩
      have f3' : ∀ h : m < E.size, 128 ≤ ((E[m]'h).toNat) := by
        intro h
        have := f3 (by omega)
        simpa only [hm, Nat.add_sub_cancel] using this
      clear f3
      have hmE : m < E.size := by omega
      obtain ⟨y, hy⟩ : ∃ y : UInt8, E[m]'hmE = y := ⟨_, rfl⟩
      have hy128 := Aside0.mk (show 128 ≤ y.toNat by rw [← hy]; exact f3' hmE)
      clear f3' f1
      go_enter Tryd.func35, Tryd.ntmps35
      go_wp2_with (go_at_call 44; refine (Tryd.utf8_ValidRune _ _).mono ?_; rintro e w' ⟨rfl, hw⟩; rw [hw, hv])
      repeat (go_step3; go_wp2_with (go_at_call 44; refine (Tryd.utf8_ValidRune _ _).mono ?_; rintro e w' ⟨rfl, hw⟩; rw [hw, hv]))
      go_loopg [9] 0 (fun g v9 w' => v9 = .int .i64 (m : Int) ∧ Aside0 (Below w.heap.size w w'))
      case atStart => exact ⟨by first | rfl | go_num, ⟨Below.refl _ _⟩⟩
      case round =>
        obtain ⟨rfl, HB⟩ := hrel
        by_cases hlt : m < t.size
        · have dm : decide (m < t.size) = true := decide_eq_true hlt
          obtain ⟨x, hx⟩ : ∃ x : UInt8, t[m]'hlt = x := ⟨_, rfl⟩
          have hx128 : x.toNat < 128 := HA.out m x (by rw [← hx]; exact Lib.data_getElem? t m hlt)
          have hne : ((x.toNat : Int) != (y.toNat : Int)) = true := by rw [bne_iff_ne]; have := hy128.out; omega
          have hneg : Lib.indexByte (List.take (t.size - (m + 1)) (List.drop (m + 1) t.data.toList)) y < 0 := by
            have hc := Lib.contains_iff_indexByte (List.take (t.size - (m + 1)) (List.drop (m + 1) t.data.toList)) y
            have hf : (List.take (t.size - (m + 1)) (List.drop (m + 1) t.data.toList)).contains y = false := by
              rw [Bool.eq_false_iff]
              intro h
              rw [List.contains_iff_mem] at h
              have hm2 := List.mem_of_mem_drop (List.mem_of_mem_take h)
              obtain ⟨j, hj⟩ := List.getElem?_of_mem hm2
              have := HA.out j y hj
              have := hy128.out
              omega
            rw [hf] at hc
            have := of_decide_eq_false hc.symm
            omega
          clear hx128
          go_wp2
          go_step3
          go_wp2
          go_quiet (fail)
          go_wp2
          have s0 : (m : Int) + 1 ≤ (t.size : Int) := by omega
          have s0' : m + 1 ≤ t.size := by omega
          have s1 : IntKind.i64.wrap ((m : Int) + 1) = (m : Int) + 1 := IntWalk.i64_in _ (by omega)
          have s2 : 0 ≤ (m : Int) + 1 := by omega
          have s3 : ((m : Int) + 1).toNat = m + 1 := by omega
          have s4 : (m : Int) < (m : Int) + 1 := by omega
          have s5 : (m : Int).toNat = m := by omega
          have s6 : (m : Int) < (E.size : Int) := by omega
          go_quiet ((go_at_call 43; exact Kit.quiet_more_same (Tryd.strings_IndexByte _ _ _)))
          go_wp2
          repeat (first | (rw [Exit.noGoto_ret]; try go_wp2) | fail)
          go_ret
          exact ⟨rfl, by repeat (first | exact HB.out | apply below_drew | apply pw_below_drewN)⟩
        · have dm : decide (m < t.size) = false := decide_eq_false hlt
          go_wp2
          repeat (first | (rw [Exit.noGoto_ret]; try go_wp2) | fail)
          go_ret
          exact ⟨rfl, by repeat (first | exact HB.out | apply below_drew | apply pw_below_drewN)⟩

theorem get_byte (s : ByteArray) (i : Nat) (h : i < s.size) : s.get! i = s[i]'h := by
  have := get_at s i h
  exact this
/-- The bytes of a rune beyond ASCII are all beyond ASCII. -/
theorem decode_wide (s : ByteArray) (pos : Nat) (h : pos < s.size) (ha : 128 ≤ (s[pos]'h).toNat) : ∀ k, k < (Utf8.decode s pos).2 → pos + k < s.size ∧ 128 ≤ (s.get! (pos + k)).toNat := by
  have h0 : 128 ≤ (s.get! (pos + 0)).toNat := by rw [Nat.add_zero, get_byte s pos h]; exact ha
  intro k hk
  match k with
  | 0 => exact ⟨h, h0⟩
  | k + 1 =>
    have hn : ¬ (s.get! (pos + 0)).toNat < 128 := by omega
    simp only [Utf8.decode, hn, if_false] at hk
    have fin : ∀ q, (decide (pos + q < s.size) && (s.get! (pos + q)).toNat / 64 == 2) = true → pos + q < s.size ∧ 128 ≤ (s.get! (pos + q)).toNat := by
      intro q hq
      rw [Bool.and_eq_true, decide_eq_true_iff, beq_iff_eq] at hq
      exact ⟨hq.1, by omega⟩
    split at hk
    · rename_i hc
      rw [Bool.and_eq_true] at hc
      split at hk
      · obtain rfl : k = 0 := by simp at hk; omega
        exact fin 1 hc.2
      · simp at hk
    · split at hk
      · rename_i hc
        simp only [Bool.and_eq_true] at hc
        split at hk
        · simp only at hk
          rcases (show k = 0 ∨ k = 1 by omega) with rfl | rfl
          · exact fin 1 (by rw [Bool.and_eq_true]; exact hc.1.2)
          · exact fin 2 (by rw [Bool.and_eq_true]; exact hc.2)
        · simp at hk
      · split at hk
        · rename_i hc
          simp only [Bool.and_eq_true] at hc
          split at hk
          · simp only at hk
            rcases (show k = 0 ∨ k = 1 ∨ k = 2 by omega) with rfl | rfl | rfl
            · exact fin 1 (by rw [Bool.and_eq_true]; exact hc.1.1.2)
            · exact fin 2 (by rw [Bool.and_eq_true]; exact hc.1.2)
            · exact fin 3 (by rw [Bool.and_eq_true]; exact hc.2)
          · simp at hk
        · simp at hk

/-- The two bytes that no name may hold. -/
def SL : ByteArray := ⟨#[47, 0]⟩
theorem SL_ascii : ∀ (j : Nat) b, SL.data.toList[j]? = some b → b.toNat < 128 := by
  intro j b h
  have : b ∈ SL.data.toList := List.mem_of_getElem? h
  have e : SL.data.toList = [47, 0] := rfl
  rw [e] at this
  simp at this
  rcases this with rfl | rfl <;> decide
theorem noAny_wide {s : ByteArray} {i n : Nat} (hno : Lib.NoAny s.data.toList SL.data.toList i) (h : ∀ k, k < n → i + k < s.size ∧ 128 ≤ (s.get! (i + k)).toNat) : Lib.NoAny s.data.toList SL.data.toList (i + n) := by
  intro j b hj hb
  by_cases hji : j < i
  · exact hno j b hji hb
  · obtain ⟨h1, h2⟩ := h (j - i) (by omega)
    rw [show i + (j - i) = j by omega] at h1 h2
    rw [get_byte s j h1] at h2
    have e := Lib.data_getElem? s j h1
    rw [e] at hb
    injection hb with hb
    rw [hb] at h2
    rw [Bool.eq_false_iff]
    intro hc
    rw [List.contains_iff_mem] at hc
    have e : SL.data.toList = [47, 0] := rfl
    rw [e] at hc
    simp at hc
    rcases hc with rfl | rfl
    · exact absurd h2 (by decide)
    · exact absurd h2 (by decide)

set_option maxHeartbeats 8000000 in
set_option maxRecDepth 1000000 in
theorem indexAny_short (s : ByteArray) (w : World) (h8 : s.size ≤ 8) :
    Calls Tryd.prog 28 #[.string s, .string SL] w fun e w' => e = .returned (.int .i64 (Lib.indexAny s.data.toList SL.data.toList)) ∧ Below w.heap.size w w' := by
  obtain ⟨C, hC⟩ : ∃ C, SL = C := ⟨_, rfl⟩
  have hCa := SL_ascii
  have hC2 : SL.size = 2 := rfl
  have hemp : SL.toList.isEmpty = false := by rw [toList_bs]; rfl
  have HW := fun {s : ByteArray} {i n : Nat} (hno : Lib.NoAny s.data.toList SL.data.toList i) (h : ∀ k, k < n → i + k < s.size ∧ 128 ≤ (s.get! (i + k)).toNat) => noAny_wide hno h
  rw [hC] at hCa hC2 hemp HW ⊢
  have hWide := Aside0.mk @HW
  have hn1 : ((C.size : Int) == 1) = false := beq_eq_false_iff_ne.2 (by omega)
  have hCs : C.size ≤ 1000 := by omega
  have HA := Aside0.mk hCa
  have h8z : decide ((8 : Int) < (s.size : Int)) = false := decide_eq_false (by omega)
  clear hC hCa hC2 HW
  go_enter Tryd.func28, Tryd.ntmps28
  go_wp2_with (go_at_call 36; refine (Tryd.strings_shouldUseASCIISet _ _).mono ?_; rintro e w' ⟨rfl, hw⟩; rw [hw, h8z])
  obtain ⟨K, hK⟩ : ∃ K, K = w.heap.size := ⟨_, rfl⟩
  have HB1 := Aside0.mk (show Below K w (w.iter s 0) by rw [hK]; exact (Below.refl _ _).alloc (Nat.le_refl _) _)
  have HI1 := Aside0.mk (show (w.iter s 0).heap[K]? = some (.stringIter s 0) by rw [hK]; exact World.iter_heap _ _ _)
  rw [← hK]
  have HK := Aside0.mk hK
  clear hK
  go_loopg [9, 10] s.size (fun g _ _ wx => ∃ i : Nat, s.size ≤ i + g ∧ i ≤ s.size ∧ Aside0 (wx.heap[K]? = some (.stringIter s i)) ∧ Aside0 (Below K w wx) ∧ Aside0 (Lib.NoAny s.data.toList C.data.toList i))
  case atStart => exact ⟨0, by omega, by omega, HI1, HB1, ⟨Lib.NoAny.zero _ _⟩⟩
  case round =>
    clear HI1 HB1
    obtain ⟨i, hig, his, HI, HB, HN⟩ := hrel
    by_cases hi : i < s.size
    · by_cases ha : (s[i]'hi).toNat < 128
      · obtain ⟨x, hx⟩ : ∃ x : UInt8, s[i]'hi = x := ⟨_, rfl⟩
        have hxl : s.data.toList[i]? = some x := by rw [← hx]; exact Lib.data_getElem? s i hi
        rw [hx] at ha
        have hnx := fun ty => Lib.run_next_ascii_at (P := Tryd.prog) wr K s i ty HI.out hi (by rw [hx]; exact ha)
        rw [hx] at hnx
        have Hx := Aside0.mk hxl
        have HI2 := Aside0.mk (Lib.iterAt_heap wr K s i (i + 1) HI.out)
        have HB2 := Aside0.mk (Lib.below_iterAt HB.out (Nat.le_refl K) s (i + 1))
        clear hxl hx
        have hcon := Lib.contains_iff_indexByte C.data.toList x
        have hback : ((x.toNat : Int)).toNat.toUInt8 = x := by simp
        cases hin : C.data.toList.contains x
        · rw [hin] at hcon
          have hlt : ¬ ((0 : Int) ≤ Lib.indexByte C.data.toList x) := of_decide_eq_false hcon.symm
          clear hcon
          go_wp2_with (go_at_call 35; refine (Tryd.strings_IndexRune_ascii _ _ _ (by omega) (by omega)).mono ?_; rintro e w' ⟨rfl, hw⟩; rw [hw, hback]; clear hw)
          go_roundg (s.size - (i + 1))
          case measure => omega
          case rel => exact ⟨i + 1, by omega, by omega, HI2, HB2, ⟨HN.out.succ Hx.out hin⟩⟩
        · rw [hin] at hcon
          have hge : (0 : Int) ≤ Lib.indexByte C.data.toList x := of_decide_eq_true hcon.symm
          clear hcon
          go_wp2_with (go_at_call 35; refine (Tryd.strings_IndexRune_ascii _ _ _ (by omega) (by omega)).mono ?_; rintro e w' ⟨rfl, hw⟩; rw [hw, hback]; clear hw)
          go_ret
          exact ⟨by rw [Lib.indexAny_hit HN.out Hx.out hin]; rfl, by rw [← HK.out]; exact HB2.out⟩
      · have hd := decode_high s i hi (by omega)
        have hd2 := decode_le s i
        have hwide := hWide.out HN.out (decode_wide s i hi (by omega))
        have hnx := fun ty => Lib.run_next_any_at (P := Tryd.prog) wr K s i ty HI.out hi
        obtain ⟨rn, hrn⟩ : ∃ rn, (Utf8.decode s i).1 = rn := ⟨_, rfl⟩
        obtain ⟨wd, hwd⟩ : ∃ wd, (Utf8.decode s i).2 = wd := ⟨_, rfl⟩
        have hin := (decode_wide s i hi (by omega) (wd - 1) (by omega)).1
        rw [hrn] at hd hd2 hnx
        rw [hwd] at hd hnx hwide
        obtain ⟨hd, hd1⟩ := hd
        have HI2 := Aside0.mk (Lib.iterAt_heap wr K s i (i + wd) HI.out)
        have HB2 := Aside0.mk (Lib.below_iterAt HB.out (Nat.le_refl K) s (i + wd))
        have HN2 := Aside0.mk hwide
        have HL := Aside0.mk (show K < wr.heap.size from (Array.getElem?_eq_some_iff.1 HI.out).1)
        clear hrn hwd hwide ha
        go_wp2_with (go_at_call 35; refine (indexRune_high C hCs HA.out _ (by omega) (by omega) _).mono ?_; rintro e w1 ⟨rfl, hw⟩; have HW1 := Aside0.mk hw; clear hw)
        go_roundg (s.size - (i + wd))
        case measure => omega
        case rel =>
          refine ⟨i + wd, by omega, by omega, ⟨?_⟩, ⟨?_⟩, HN2⟩
          · have := HW1.out.block K (by rw [Lib.iterAt_size]; exact HL.out)
            rw [this]
            exact HI2.out
          · exact HB2.out.trans (HW1.out.mono (by rw [Lib.iterAt_size]; exact Nat.le_of_lt HL.out))
    · obtain rfl : i = s.size := by omega
      have hnx := fun ty => Lib.run_next_end_at (P := Tryd.prog) wr K s s.size ty HI.out (by omega)
      go_wp2
      go_ret
      exact ⟨by rw [Lib.indexAny_none (by rw [← Lib.size_eq]; exact HN.out)]; rfl, by rw [← HK.out]; exact HB.out⟩

theorem indexAny_slash (s : ByteArray) (w : World) (hs : s.size ≤ 255) :
    Calls Tryd.prog 28 #[.string s, .string SL] w fun e w' => e = .returned (.int .i64 (Lib.indexAny s.data.toList SL.data.toList)) ∧ Below w.heap.size w w' := by
  by_cases h8 : s.size ≤ 8
  · exact indexAny_short s w h8
  · refine (Tryd.strings_IndexAny_long (fun w => by kernel_rfl) s SL w (by decide) (by omega) (by omega) (by decide) SL_ascii).mono ?_
    rintro e w' ⟨rfl, rfl⟩
    exact ⟨rfl, ((Below.refl _ _).alloc (Nat.le_refl _) _).alloc ((Below.refl w.heap.size w).alloc (Nat.le_refl _) _).size _⟩

def strings_ContainsAny.f (a0 : ByteArray) (a1 : ByteArray) : Option (Bool) := if a1 = SL ∧ a0.size ≤ 255 then some (decide (47 ∈ bs a0 ∨ 0 ∈ bs a0)) else none
theorem indexAny_mem (l chars : List UInt8) : (0 ≤ Lib.indexAny l chars) ↔ ∃ x ∈ l, chars.contains x = true := by
  induction l with
  | nil => simp [Lib.indexAny]
  | cons b l ih =>
    have hge := Lib.indexAny_ge chars l
    unfold Lib.indexAny
    by_cases hb : chars.contains b = true
    · rw [if_pos hb]
      exact ⟨fun _ => ⟨b, List.mem_cons_self, hb⟩, fun _ => Int.le_refl _⟩
    · rw [if_neg hb]
      have e : (∃ x ∈ b :: l, chars.contains x = true) ↔ ∃ x ∈ l, chars.contains x = true := by
        constructor
        · rintro ⟨x, hx, h⟩
          rcases List.mem_cons.1 hx with rfl | hx
          · exact absurd h hb
          · exact ⟨x, hx, h⟩
        · rintro ⟨x, hx, h⟩
          exact ⟨x, List.mem_cons_of_mem _ hx, h⟩
      rw [e, ← ih]
      split
      · rename_i h
        rw [beq_iff_eq] at h
        omega
      · rename_i h
        rw [beq_iff_eq] at h
        omega
theorem strings_ContainsAny.calls (a0 : ByteArray) (a1 : ByteArray) (r : Bool) (w : World) (h : strings_ContainsAny.f a0 a1 = some r) :
    Calls Tryd.prog 22 #[.string a0, .string a1] w fun e w' => e = .returned (.bool r) ∧ Below w.heap.size w w' := by
  unfold strings_ContainsAny.f at h
  by_cases hc : a1 = SL ∧ a0.size ≤ 255
  case neg => rw [if_neg hc] at h; exact absurd h (by simp)
  rw [if_pos hc] at h
  obtain ⟨rfl, hs⟩ := hc
  have HR := Aside0.mk (Option.some.inj h)
  clear h
  obtain ⟨n, hn⟩ : ∃ n, Lib.indexAny a0.data.toList SL.data.toList = n := ⟨_, rfl⟩
  have hf : ∀ W : World, Calls Tryd.prog 28 #[.string a0, .string SL] W fun e w' => e = .returned (.int .i64 n) ∧ Below W.heap.size W w' := fun W => by rw [← hn]; exact indexAny_slash a0 W hs
  have HF := Aside0.mk hf
  have HE := Aside0.mk (show decide (0 ≤ n) = r by
    rw [← HR.out, ← hn, decide_eq_decide, indexAny_mem]
    have e : SL.data.toList = [47, 0] := rfl
    rw [e]
    constructor
    · rintro ⟨x, hx, hm⟩
      simp at hm
      rcases hm with rfl | rfl
      · exact .inl hx
      · exact .inr hx
    · rintro (h | h)
      · exact ⟨47, h, rfl⟩
      · exact ⟨0, h, rfl⟩)
  clear hn hf
  generalize SL = C at HF ⊢
  go_enter Tryd.func22, Tryd.ntmps22
  go_wp2_with (go_at_call 28; refine (HF.out _).mono ?_; rintro e w1 ⟨rfl, hw⟩; have HW1 := Aside0.mk hw; clear hw)
  go_ret
  exact ⟨by rw [← HE.out]; rfl, HW1.out⟩
end Go.Proofs.YtabgpdpdgkgmbaaDoor.Q
/- By a program of this session's: a plain Lean function for a Go function, and its contract. -/
namespace Go.Proofs.YtabgpdpdgkgmbaaDoor.Q
open Go.RowKit Go.Proofs.YtabgpdpdgkgmbaaDoorW.PrintWords Go.Proofs.YtabgpdpdgkgmbaaDoorW.PrintLast Go.Proofs.YtabgpdpdgkgmbaaDoorW.PrintMore
attribute [local go_sem] max2_int min2_int max_two min_two max_three min_three max_four min_four Go.Proofs.YtabgpdpdgkgmbaaDoor.Ord.str_leq Go.Proofs.YtabgpdpdgkgmbaaDoor.Ord.str_gtr Go.Proofs.YtabgpdpdgkgmbaaDoor.Ord.str_geq   -- for this text's walks alone
set_option linter.unusedVariables false
set_option linter.unusedSimpArgs false

/-! ### name_Check: function 16 -/
def name_Check.f (a0 : ByteArray) : Option (Int) := if a0.toList = ([] : List UInt8) then (some 50) else (if (a0.size : Int) > 255 then (some 6) else ((strings_ContainsAny.f a0 (⟨#[47, 0]⟩ : ByteArray)).bind fun t102 => (if t102 = true then (some 51) else (if a0.toList = ([46] : List UInt8) then (some 52) else (if a0.toList = ([46, 46] : List UInt8) then (some 52) else (some 0))))))
set_option maxHeartbeats 8000000 in
set_option maxRecDepth 100000 in
theorem name_Check.calls (a0 : ByteArray) (r : Int) (w : World) (h : name_Check.f a0 = some r) :
    Calls Tryd.prog 16 #[.string a0] w fun e w' => e = .returned (.int .i64 r) ∧ Below w.heap.size w w' := by
  have HB := Aside0.mk (Below.refl w.heap.size w)
  have H : (if a0.toList = ([] : List UInt8) then (some 50) else (if (a0.size : Int) > 255 then (some 6) else ((strings_ContainsAny.f a0 (⟨#[47, 0]⟩ : ByteArray)).bind fun t102 => (if t102 = true then (some 51) else (if a0.toList = ([46] : List UInt8) then (some 52) else (if a0.toList = ([46, 46] : List UInt8) then (some 52) else (some 0))))))) = some r := h
  clear h
  by_cases c2 : a0.toList = ([] : List UInt8)
  · rw [if_pos c2] at H
    have c2b0 : (a0.toList == ([] : List UInt8)) = true := beq_iff_eq.mpr c2
    have c2b1 : (a0.toList != ([] : List UInt8)) = false := bne_eq_false_iff_eq.mpr c2
    clear c2
    obtain rfl := Option.some.inj H
    go_enter Tryd.func16, Tryd.ntmps16
    go_wp2
    go_ret
    exact ⟨by first | rfl | (simp [errW_none, errW_some] <;> rfl) | (simp [*, errW_none, errW_some] <;> rfl), by repeat (first | (with_reducible first | exact HB.out | apply below_alloc | apply pw_below_drewN | apply below_drew1) | exact HB.out)⟩
  · rw [if_neg c2] at H
    have c2b0 : (a0.toList == ([] : List UInt8)) = false := beq_eq_false_iff_ne.mpr c2
    have c2b1 : (a0.toList != ([] : List UInt8)) = true := bne_iff_ne.mpr c2
    by_cases c3 : (a0.size : Int) > 255
    · rw [if_pos c3] at H
      have c3b0 : decide (255 < (a0.size : Int)) = true := decide_eq_true c3
      have c3b1 : decide (255 < a0.size) = true := decide_eq_true (by omega)
      clear c3
      obtain rfl := Option.some.inj H
      go_enter Tryd.func16, Tryd.ntmps16
      go_wp2
      go_ret
      exact ⟨by first | rfl | (simp [errW_none, errW_some] <;> rfl) | (simp [*, errW_none, errW_some] <;> rfl), by repeat (first | (with_reducible first | exact HB.out | apply below_alloc | apply pw_below_drewN | apply below_drew1) | exact HB.out)⟩
    · rw [if_neg c3] at H
      have c3b0 : decide (255 < (a0.size : Int)) = false := decide_eq_false c3
      have c3b1 : decide (255 < a0.size) = false := decide_eq_false (by omega)
      clear c3
      replace H := Option.bind_eq_some_iff.mp H
      obtain ⟨t102, A40, H⟩ := H
      replace H : (if t102 = true then (some 51) else (if a0.toList = ([46] : List UInt8) then (some 52) else (if a0.toList = ([46, 46] : List UInt8) then (some 52) else (some 0)))) = some r := H
      have A4 := Aside0.mk A40
      clear A40
      by_cases c5 : t102 = true
      · subst c5
        have H1 : (some 51) = some r := by rw [if_pos rfl] at H; exact H
        clear H
        have H := H1
        clear H1
        obtain rfl := Option.some.inj H
        go_enter Tryd.func16, Tryd.ntmps16
        go_wp2_with (first | ((with_reducible refine gate_callee (f := 22) rfl ?_); refine goesL_ (some 12) rfl rfl Tryd.func22 (by kernel_rfl) rfl #[.string a0, .string (⟨#[47, 0]⟩ : ByteArray)] rfl (by (try simp only [List.map_toArray, List.map_cons, List.map_nil]); first | done | rfl | (simp only [List.length_drop, List.length_take]; rfl)) ?_; (with_reducible refine (strings_ContainsAny.calls a0 (⟨#[47, 0]⟩ : ByteArray) true _ A4.out).mono ?_); rintro e w6 ⟨rfl, hb⟩; refine ⟨_, rfl, ?_⟩; have n0_ := Aside0.mk (below_step (by repeat (first | (with_reducible first | exact HB.out | apply below_alloc | apply pw_below_drewN | apply below_drew1) | exact HB.out)) hb); clear HB; have HB := n0_; clear n0_; (try clear hb); (try clear hb2); (try clear hk); (try clear hi)))
        go_ret
        exact ⟨by first | rfl | (simp [errW_none, errW_some] <;> rfl) | (simp [*, errW_none, errW_some] <;> rfl), by repeat (first | (with_reducible first | exact HB.out | apply below_alloc | apply pw_below_drewN | apply below_drew1) | exact HB.out)⟩
      · replace c5 := Bool.eq_false_iff.mpr c5
        subst c5
        have H1 : (if a0.toList = ([46] : List UInt8) then (some 52) else (if a0.toList = ([46, 46] : List UInt8) then (some 52) else (some 0))) = some r := by rw [if_neg (show ¬ (false = true) by decide)] at H; exact H
        clear H
        have H := H1
        clear H1
        by_cases c7 : a0.toList = ([46] : List UInt8)
        · rw [if_pos c7] at H
          have c7b0 : (a0.toList == ([46] : List UInt8)) = true := beq_iff_eq.mpr c7
          have c7b1 : (a0.toList != ([46] : List UInt8)) = false := bne_eq_false_iff_eq.mpr c7
          clear c7
          obtain rfl := Option.some.inj H
          go_enter Tryd.func16, Tryd.ntmps16
          go_wp2_with (first | ((with_reducible refine gate_callee (f := 22) rfl ?_); refine goesL_ (some 12) rfl rfl Tryd.func22 (by kernel_rfl) rfl #[.string a0, .string (⟨#[47, 0]⟩ : ByteArray)] rfl (by (try simp only [List.map_toArray, List.map_cons, List.map_nil]); first | done | rfl | (simp only [List.length_drop, List.length_take]; rfl)) ?_; (with_reducible refine (strings_ContainsAny.calls a0 (⟨#[47, 0]⟩ : ByteArray) false _ A4.out).mono ?_); rintro e w8 ⟨rfl, hb⟩; refine ⟨_, rfl, ?_⟩; have n0_ := Aside0.mk (below_step (by repeat (first | (with_reducible first | exact HB.out | apply below_alloc | apply pw_below_drewN | apply below_drew1) | exact HB.out)) hb); clear HB; have HB := n0_; clear n0_; (try clear hb); (try clear hb2); (try clear hk); (try clear hi)))
          go_ret
          exact ⟨by first | rfl | (simp [errW_none, errW_some] <;> rfl) | (simp [*, errW_none, errW_some] <;> rfl), by repeat (first | (with_reducible first | exact HB.out | apply below_alloc | apply pw_below_drewN | apply below_drew1) | exact HB.out)⟩
        · rw [if_neg c7] at H
          have c7b0 : (a0.toList == ([46] : List UInt8)) = false := beq_eq_false_iff_ne.mpr c7
          have c7b1 : (a0.toList != ([46] : List UInt8)) = true := bne_iff_ne.mpr c7
          by_cases c9 : a0.toList = ([46, 46] : List UInt8)
          · rw [if_pos c9] at H
            have c9b0 : (a0.toList == ([46, 46] : List UInt8)) = true := beq_iff_eq.mpr c9
            have c9b1 : (a0.toList != ([46, 46] : List UInt8)) = false := bne_eq_false_iff_eq.mpr c9
            clear c9
            obtain rfl := Option.some.inj H
            go_enter Tryd.func16, Tryd.ntmps16
            go_wp2_with (first | ((with_reducible refine gate_callee (f := 22) rfl ?_); refine goesL_ (some 12) rfl rfl Tryd.func22 (by kernel_rfl) rfl #[.string a0, .string (⟨#[47, 0]⟩ : ByteArray)] rfl (by (try simp only [List.map_toArray, List.map_cons, List.map_nil]); first | done | rfl | (simp only [List.length_drop, List.length_take]; rfl)) ?_; (with_reducible refine (strings_ContainsAny.calls a0 (⟨#[47, 0]⟩ : ByteArray) false _ A4.out).mono ?_); rintro e w10 ⟨rfl, hb⟩; refine ⟨_, rfl, ?_⟩; have n0_ := Aside0.mk (below_step (by repeat (first | (with_reducible first | exact HB.out | apply below_alloc | apply pw_below_drewN | apply below_drew1) | exact HB.out)) hb); clear HB; have HB := n0_; clear n0_; (try clear hb); (try clear hb2); (try clear hk); (try clear hi)))
            go_ret
            exact ⟨by first | rfl | (simp [errW_none, errW_some] <;> rfl) | (simp [*, errW_none, errW_some] <;> rfl), by repeat (first | (with_reducible first | exact HB.out | apply below_alloc | apply pw_below_drewN | apply below_drew1) | exact HB.out)⟩
          · rw [if_neg c9] at H
            have c9b0 : (a0.toList == ([46, 46] : List UInt8)) = false := beq_eq_false_iff_ne.mpr c9
            have c9b1 : (a0.toList != ([46, 46] : List UInt8)) = true := bne_iff_ne.mpr c9
            obtain rfl := Option.some.inj H
            go_enter Tryd.func16, Tryd.ntmps16
            go_wp2_with (first | ((with_reducible refine gate_callee (f := 22) rfl ?_); refine goesL_ (some 12) rfl rfl Tryd.func22 (by kernel_rfl) rfl #[.string a0, .string (⟨#[47, 0]⟩ : ByteArray)] rfl (by (try simp only [List.map_toArray, List.map_cons, List.map_nil]); first | done | rfl | (simp only [List.length_drop, List.length_take]; rfl)) ?_; (with_reducible refine (strings_ContainsAny.calls a0 (⟨#[47, 0]⟩ : ByteArray) false _ A4.out).mono ?_); rintro e w11 ⟨rfl, hb⟩; refine ⟨_, rfl, ?_⟩; have n0_ := Aside0.mk (below_step (by repeat (first | (with_reducible first | exact HB.out | apply below_alloc | apply pw_below_drewN | apply below_drew1) | exact HB.out)) hb); clear HB; have HB := n0_; clear n0_; (try clear hb); (try clear hb2); (try clear hk); (try clear hi)))
            go_ret
            exact ⟨by first | rfl | (simp [errW_none, errW_some] <;> rfl) | (simp [*, errW_none, errW_some] <;> rfl), by repeat (first | (with_reducible first | exact HB.out | apply below_alloc | apply pw_below_drewN | apply below_drew1) | exact HB.out)⟩

end Go.Proofs.YtabgpdpdgkgmbaaDoor.Q
/- strings.Join by the library's own contract. -/
namespace Go.Proofs.YtabgpdpdgkgmbaaDoor.Q
open Go.RowKit Go.Proofs.YtabgpdpdgkgmbaaDoorW.PrintWords Go.Proofs.YtabgpdpdgkgmbaaDoorW.PrintLast Go.Proofs.YtabgpdpdgkgmbaaDoorW.PrintMore Go.Proofs.YtabgpdpdgkgmbaaDoor.Bytes
set_option linter.unusedVariables false
set_option linter.unusedSimpArgs false

def strings_Join.f (l0 : List ByteArray) (sep : ByteArray) : Option ByteArray :=
  if l0.length ≤ 140737488355328 ∧ (Lib.join (l0.map bs) (bs sep)).length ≤ 140737488355328 then some ⟨(Lib.join (l0.map bs) (bs sep)).toArray⟩ else none
theorem strings_Join.calls (A0 : Option Addr) (c0 : Nat) (l0 : List ByteArray) (a1 : ByteArray) (r : ByteArray) (w : World) (hr0 : Kd.C Kd.string w A0 l0.length l0) (hc0 : l0.length ≤ c0) (h : strings_Join.f l0 a1 = some r) :
    Calls Tryd.prog 20 #[.slice A0 l0.length c0, .string a1] w fun e w' => e = .returned (.string r) ∧ Below w.heap.size w w' := by
  unfold strings_Join.f at h
  split at h
  case isFalse => cases h
  case isTrue hc =>
    obtain rfl := Option.some.inj h
    cases l0 with
    | nil =>
      refine (Tryd.strings_Join_none A0 c0 a1 w).mono ?_
      rintro e w' ⟨rfl, rfl⟩
      exact ⟨rfl, Below.refl _ _⟩
    | cons x t =>
      obtain ⟨ad, rfl, hcells⟩ := hr0.2.2 (by simp)
      have hcell : ∀ (j : Nat) y, (x :: t)[j]? = some y → w.cell? (ad.add j) = some (.string y) := by
        intro j y hy
        obtain ⟨c, hcl, hcy, hu⟩ := hcells j y hy
        have hcy' : c = [Value.string y] := hcy
        subst hcy'
        have := hu 0 (.string y) rfl
        simpa [Kd.string, Kd.scalar] using this
      have h0 := hcell 0 x rfl
      have hs : ad.spot = none := by
        have h0' : w.cell? ad = some (.string x) := h0
        cases hsp : ad.spot with
        | none => rfl
        | some k =>
          unfold World.cell? at h0'
          split at h0'
          · rw [hsp] at h0'; simp at h0'
          · cases h0'
      have hlt : ad.block < w.heap.size := World.block_lt_of_cell? w ad h0
      obtain ⟨b, o, s⟩ := ad
      obtain rfl : s = none := hs
      refine (Tryd.strings_Join b o c0 (x :: t) a1 w (fun j y hy => ?_) hlt hc.1 hc0 hc.2).mono ?_
      · have := hcell j y hy
        unfold Addr.add at this
        split at this
        · rename_i e; subst e; exact this
        · exact this
      · rintro e w' ⟨rfl, hb⟩
        exact ⟨rfl, hb⟩
end Go.Proofs.YtabgpdpdgkgmbaaDoor.Q
/- By a program of this session's: a plain Lean function for a Go function, and its contract. -/
namespace Go.Proofs.YtabgpdpdgkgmbaaDoor.Q
open Go.RowKit Go.Proofs.YtabgpdpdgkgmbaaDoorW.PrintWords Go.Proofs.YtabgpdpdgkgmbaaDoorW.PrintLast Go.Proofs.YtabgpdpdgkgmbaaDoorW.PrintMore
attribute [local go_sem] max2_int min2_int max_two min_two max_three min_three max_four min_four Go.Proofs.YtabgpdpdgkgmbaaDoor.Ord.str_leq Go.Proofs.YtabgpdpdgkgmbaaDoor.Ord.str_gtr Go.Proofs.YtabgpdpdgkgmbaaDoor.Ord.str_geq   -- for this text's walks alone
set_option linter.unusedVariables false
set_option linter.unusedSimpArgs false

/-! ### name_Join: function 12 -/
def name_Join.l0 : Nat → List ByteArray → List ByteArray → Int → Int → Option (ByteArray × Int × Int)
  | 0, _, _, _, _ => none
  | k + 1, x0, x7, x8, x9 => if x9 < x8 then (if 0 ≤ x9 then (if x9 < (x7.length : Int) then (if x9 = 31 then (some ((⟨#[]⟩ : ByteArray), 61, x9)) else ((name_Check.f (rdOf ByteArray.empty x7 x9)).bind fun t106 => (if t106 = 0 then (name_Join.l0 k x0 x7 x8 (wrap64 (x9 + 1))) else (some ((⟨#[]⟩ : ByteArray), t106, x9))))) else (none)) else (none)) else ((strings_Join.f x0 (⟨#[47]⟩ : ByteArray)).bind fun t104 => (some (t104, 0, 0)))
def name_Join.f (k : Nat) (l0 : List ByteArray) : Option (ByteArray × Int × Int) := name_Join.l0 k l0 l0 (l0.length : Int) 0
theorem name_Join.mono_l : ∀ k, (∀ y0 y1 y2 y3, LeO (name_Join.l0 k y0 y1 y2 y3) (name_Join.l0 (k + 1) y0 y1 y2 y3))
  | 0 => fun _ _ _ _ r h => by simp [name_Join.l0] at h
  | k + 1 => by
    have ih0 := name_Join.mono_l k
    · intro y0 y1 y2 y3
      unfold name_Join.l0
      repeat' first
      | (with_reducible exact ih0 _ _ _ _)
      | (with_reducible exact LeO.refl _)
      | (with_reducible exact LeO.none _)
      | (with_reducible refine LeO.ite ?_ ?_)
      | (with_reducible refine LeO.bind ?_ (fun _ => ?_))
      | exact ih0 _ _ _ _
      | exact LeO.none _
      | refine LeO.ite ?_ ?_
      | refine LeO.bind ?_ (fun _ => ?_)
theorem name_Join.mono : ∀ a0 k, LeO (name_Join.f k a0) (name_Join.f (k + 1) a0) := by
  intro a0 k
  have ih0 := name_Join.mono_l k
  unfold name_Join.f
  repeat' first
      | (with_reducible exact ih0 _ _ _ _)
      | (with_reducible exact LeO.refl _)
      | (with_reducible exact LeO.none _)
      | (with_reducible refine LeO.ite ?_ ?_)
      | (with_reducible refine LeO.bind ?_ (fun _ => ?_))
      | exact ih0 _ _ _ _
      | exact LeO.none _
      | refine LeO.ite ?_ ?_
      | refine LeO.bind ?_ (fun _ => ?_)
set_option maxHeartbeats 8000000 in
set_option maxRecDepth 100000 in
theorem name_Join.calls (k : Nat) (A0 : Option Addr) (c0 : Nat) (l0 : List ByteArray) (r1 : ByteArray) (r2 : Int) (r3 : Int) (w : World) (hr0 : Kd.C Kd.string w A0 l0.length l0) (hc0 : l0.length ≤ c0) (h : name_Join.f k l0 = some (r1, r2, r3)) :
    Calls Tryd.prog 12 #[.slice A0 l0.length c0] w fun e w' => e = .returned (.tuple #[.string r1, .agg #[.int .i64 r2, .int .i64 r3]]) ∧ Below w.heap.size w w' := by
  have hu26 := Tryd.underlying26
  have HR0 := Aside0.mk hr0
  have HC0 := Aside0.mk hc0
  clear hr0 hc0
  have HB := Aside0.mk (Below.refl w.heap.size w)
  have H : (name_Join.l0 k l0 l0 (l0.length : Int) 0) = some (r1, r2, r3) := h
  clear h
  have H' := Aside0.mk H
  clear H
  go_enter Tryd.func12, Tryd.ntmps12
  go_wp2_with (first | ((with_reducible refine gate_dst (N := 3) rfl ?_); refine box_event ?hg (N := 3) ?hd (cs := #[.int .i64 0, .int .i64 0]) (t := 26) ?hr ?_; (case hd => rfl); (case hg => rfl); (case hr => first | (go_simp; done) | (go_simp; rfl)); intro gb103 hg w2 hbox hb; have n0_ := Aside0.mk (below_step (by repeat (first | (with_reducible first | exact HB.out | apply below_alloc | apply pw_below_drewN | apply below_drew1) | exact HB.out)) hb); have n1_ := Aside0.mk (hbox); have n2_ := Aside0.mk ((by rw [hg]; exact (below_size (by repeat (first | (with_reducible first | exact HB.out | apply below_alloc | apply pw_below_drewN | apply below_drew1) | exact HB.out))) : w.heap.size ≤ gb103)); have n3_ := Aside0.mk ((by rw [hg]; exact (below_size (by repeat (first | (with_reducible first | exact HB.out | apply below_alloc | apply pw_below_drewN | apply below_drew1) | exact HB.out))) : w.heap.size ≤ gb103)); clear HB; have HB := n0_; have BK103 := n1_; have GW103 := n2_; have GE103 := n3_; clear n0_ n1_ n2_ n3_; clear hb hbox hg))
  go_loopg [9] k (fun kq v9 w' => ∃ (x9_1 : Int) (x104000_1 : Int) (x104001_1 : Int), v9 = .int .i64 x9_1 ∧ Aside0 (name_Join.l0 kq l0 l0 (l0.length : Int) x9_1 = some (r1, r2, r3)) ∧ Aside0 (kq ≤ k) ∧ Aside0 (w'.heap[gb103]? = some (.cells #[.int .i64 x104000_1, .int .i64 x104001_1] 26 (0, 0))) ∧ Aside0 (Below w.heap.size w w'))
  case atStart => exact ⟨(0), (0), (0), (by first | rfl | (simp; done) | (simp [*]; done)), H', ⟨Nat.le_refl _⟩, ⟨by (with_reducible repeat (first | refine blk_drewN ?_ _ | refine blk_drew ?_ | refine blk_alloc ?_ _)); exact BK103.out⟩, ⟨by repeat (first | (with_reducible first | exact HB.out | apply below_alloc | apply pw_below_drewN | apply below_drew1 | refine below_set ?_ GE103.out) | exact HB.out)⟩⟩
  case round =>
    clear H'
    try clear c1
    try clear p2
    obtain ⟨x9_1, x104000_1, x104001_1, rfl, HA, HK1, BK103, HB⟩ := hrel
    cases gk with
    | zero => exact absurd HA.out (by simp [name_Join.l0])
    | succ k1 =>
      have H := HA.out
      clear HA
      simp only [name_Join.l0] at H
      by_cases c3 : x9_1 < (l0.length : Int)
      · rw [if_pos c3] at H
        have c3b0 : decide (x9_1 < (l0.length : Int)) = true := decide_eq_true c3
        clear c3
        by_cases c4 : 0 ≤ x9_1
        · rw [if_pos c4] at H
          have c4b0 : decide (0 ≤ x9_1) = true := decide_eq_true c4
          clear c4
          by_cases c5 : x9_1 < (l0.length : Int)
          · rw [if_pos c5] at H
            have c5b0 : decide (x9_1 < (l0.length : Int)) = true := decide_eq_true c5
            clear c5
            by_cases c6 : x9_1 = 31
            · rw [if_pos c6] at H
              have c6b0 : (x9_1 == 31) = true := beq_iff_eq.mpr c6
              have c6b1 : (x9_1 != 31) = false := bne_eq_false_iff_eq.mpr c6
              clear c6
              simp only [Option.some.injEq, Prod.mk.injEq] at H
              obtain ⟨rfl, rfl, rfl⟩ := H
              have p105 : 0 ≤ (x9_1 : Int) := of_decide_eq_true (by first | (with_reducible assumption) | assumption)
              have q105 : x9_1 < (l0.length : Int) := of_decide_eq_true (by first | (with_reducible assumption) | assumption)
              obtain ⟨ad105, e105, hx105_0⟩ := Kd.at_string HR0.out x9_1 p105 q105
              cases e105
              replace hx105_0 := (HB.out.cell (World.block_lt_of_cell? w _ hx105_0)).trans hx105_0
              replace p105 := eq_true p105
              replace q105 := eq_true q105
              have hcz7_0 : wr.cell? ⟨gb103, 0, none⟩ = some (.int .i64 x104000_1) := (blk_cell BK103.out 0).trans rfl
              have hcz7_1 : wr.cell? ⟨gb103, 1, none⟩ = some (.int .i64 x104001_1) := (blk_cell BK103.out 1).trans rfl
              have hfz7_0 := blk_frozen BK103.out 0
              have hfz7_1 := blk_frozen BK103.out 1
              go_wp2
              refine bodyPost_ret (results_tc rfl _ _ gb103 26 #[.int .i64 61, .int .i64 x9_1] (0, 0) _ rfl (by (with_reducible repeat (first | refine blk_drewN ?_ _ | refine blk_drew ?_ | refine blk_alloc ?_ _)); refine blk_put (cs := #[.int .i64 61, .int .i64 x104001_1]) ?_ 1 _ rfl; (with_reducible repeat (first | refine blk_drewN ?_ _ | refine blk_drew ?_ | refine blk_alloc ?_ _)); refine blk_put (cs := #[.int .i64 x104000_1, .int .i64 x104001_1]) ?_ 0 _ rfl; (with_reducible repeat (first | refine blk_drewN ?_ _ | refine blk_drew ?_ | refine blk_alloc ?_ _)); exact BK103.out) Tryd.underlying26 rfl (by kernel_rfl)) rfl ?_
              exact ⟨by first | rfl | (simp [errW_none, errW_some] <;> rfl) | (simp [*, errW_none, errW_some] <;> rfl), by repeat (first | (with_reducible first | exact HB.out | apply below_alloc | apply pw_below_drewN | apply below_drew1 | refine below_set ?_ GE103.out) | exact HB.out)⟩
            · rw [if_neg c6] at H
              have c6b0 : (x9_1 == 31) = false := beq_eq_false_iff_ne.mpr c6
              have c6b1 : (x9_1 != 31) = true := bne_iff_ne.mpr c6
              replace H := Option.bind_eq_some_iff.mp H
              obtain ⟨t106, A80, H⟩ := H
              replace H : (if t106 = 0 then (name_Join.l0 k1 l0 l0 (l0.length : Int) (wrap64 (x9_1 + 1))) else (some ((⟨#[]⟩ : ByteArray), t106, x9_1))) = some (r1, r2, r3) := H
              have A8 := Aside0.mk A80
              clear A80
              by_cases c9 : t106 = 0
              · rw [if_pos c9] at H
                have c9b0 : (t106 == 0) = true := beq_iff_eq.mpr c9
                have c9b1 : (t106 != 0) = false := bne_eq_false_iff_eq.mpr c9
                clear c9
                have H' := Aside0.mk H
                clear H
                have p105 : 0 ≤ (x9_1 : Int) := of_decide_eq_true (by first | (with_reducible assumption) | assumption)
                have q105 : x9_1 < (l0.length : Int) := of_decide_eq_true (by first | (with_reducible assumption) | assumption)
                obtain ⟨ad105, e105, hx105_0⟩ := Kd.at_string HR0.out x9_1 p105 q105
                cases e105
                replace hx105_0 := (HB.out.cell (World.block_lt_of_cell? w _ hx105_0)).trans hx105_0
                replace p105 := eq_true p105
                replace q105 := eq_true q105
                go_wp2_with (first | ((with_reducible refine gate_callee (f := 16) rfl ?_); refine goesL_ (some 19) rfl rfl Tryd.func16 (by kernel_rfl) rfl #[.string (rdOf ByteArray.empty l0 x9_1)] rfl (by (try simp only [List.map_toArray, List.map_cons, List.map_nil]); first | done | rfl | (simp only [List.length_drop, List.length_take]; rfl)) ?_; (with_reducible refine (name_Check.calls (rdOf ByteArray.empty l0 x9_1) t106 _ A8.out).mono ?_); rintro e w10 ⟨rfl, hb⟩; refine ⟨_, rfl, ?_⟩; have n0_ := Aside0.mk (blk_below (g := gb103) (o := .cells #[.int .i64 x104000_1, .int .i64 x104001_1] 26 (0, 0)) (by (with_reducible repeat (first | refine blk_drewN ?_ _ | refine blk_drew ?_ | refine blk_alloc ?_ _)); exact BK103.out) hb); have n1_ := Aside0.mk (below_step (by repeat (first | (with_reducible first | exact HB.out | apply below_alloc | apply pw_below_drewN | apply below_drew1 | refine below_set ?_ GE103.out) | exact HB.out)) hb); clear BK103; clear HB; have BK103 := n0_; have HB := n1_; clear n0_ n1_; (try clear hb); (try clear hb2); (try clear hk); (try clear hi)))
                go_roundg k1
                case measure => have := HK1.out; omega
                case rel => exact ⟨(wrap64 (x9_1 + 1)), (x104000_1), (x104001_1), (by first | rfl | (simp; done) | (simp [*]; done)), H', ⟨by have := HK1.out; omega⟩, ⟨by (with_reducible repeat (first | refine blk_drewN ?_ _ | refine blk_drew ?_ | refine blk_alloc ?_ _)); exact BK103.out⟩, ⟨by repeat (first | (with_reducible first | exact HB.out | apply below_alloc | apply pw_below_drewN | apply below_drew1 | refine below_set ?_ GE103.out) | exact HB.out)⟩⟩
              · rw [if_neg c9] at H
                have c9b0 : (t106 == 0) = false := beq_eq_false_iff_ne.mpr c9
                have c9b1 : (t106 != 0) = true := bne_iff_ne.mpr c9
                simp only [Option.some.injEq, Prod.mk.injEq] at H
                obtain ⟨rfl, rfl, rfl⟩ := H
                have p105 : 0 ≤ (x9_1 : Int) := of_decide_eq_true (by first | (with_reducible assumption) | assumption)
                have q105 : x9_1 < (l0.length : Int) := of_decide_eq_true (by first | (with_reducible assumption) | assumption)
                obtain ⟨ad105, e105, hx105_0⟩ := Kd.at_string HR0.out x9_1 p105 q105
                cases e105
                replace hx105_0 := (HB.out.cell (World.block_lt_of_cell? w _ hx105_0)).trans hx105_0
                replace p105 := eq_true p105
                replace q105 := eq_true q105
                go_wp2_with (first | ((with_reducible refine gate_callee (f := 16) rfl ?_); refine goesL_ (some 19) rfl rfl Tryd.func16 (by kernel_rfl) rfl #[.string (rdOf ByteArray.empty l0 x9_1)] rfl (by (try simp only [List.map_toArray, List.map_cons, List.map_nil]); first | done | rfl | (simp only [List.length_drop, List.length_take]; rfl)) ?_; (with_reducible refine (name_Check.calls (rdOf ByteArray.empty l0 x9_1) t106 _ A8.out).mono ?_); rintro e w11 ⟨rfl, hb⟩; refine ⟨_, rfl, ?_⟩; have n0_ := Aside0.mk (blk_below (g := gb103) (o := .cells #[.int .i64 x104000_1, .int .i64 x104001_1] 26 (0, 0)) (by (with_reducible repeat (first | refine blk_drewN ?_ _ | refine blk_drew ?_ | refine blk_alloc ?_ _)); exact BK103.out) hb); have n1_ := Aside0.mk (below_step (by repeat (first | (with_reducible first | exact HB.out | apply below_alloc | apply pw_below_drewN | apply below_drew1 | refine below_set ?_ GE103.out) | exact HB.out)) hb); clear BK103; clear HB; have BK103 := n0_; have HB := n1_; clear n0_ n1_; (try clear hb); (try clear hb2); (try clear hk); (try clear hi); have hcz12_0 : w11.cell? ⟨gb103, 0, none⟩ = some (.int .i64 x104000_1) := (blk_cell BK103.out 0).trans rfl; have hcz12_1 : w11.cell? ⟨gb103, 1, none⟩ = some (.int .i64 x104001_1) := (blk_cell BK103.out 1).trans rfl; have hfz12_0 := blk_frozen BK103.out 0; have hfz12_1 := blk_frozen BK103.out 1))
                refine bodyPost_ret (results_tc rfl _ _ gb103 26 #[.int .i64 t106, .int .i64 x9_1] (0, 0) _ rfl (by (with_reducible repeat (first | refine blk_drewN ?_ _ | refine blk_drew ?_ | refine blk_alloc ?_ _)); refine blk_put (cs := #[.int .i64 t106, .int .i64 x104001_1]) ?_ 1 _ rfl; (with_reducible repeat (first | refine blk_drewN ?_ _ | refine blk_drew ?_ | refine blk_alloc ?_ _)); refine blk_put (cs := #[.int .i64 x104000_1, .int .i64 x104001_1]) ?_ 0 _ rfl; (with_reducible repeat (first | refine blk_drewN ?_ _ | refine blk_drew ?_ | refine blk_alloc ?_ _)); exact BK103.out) Tryd.underlying26 rfl (by kernel_rfl)) rfl ?_
                exact ⟨by first | rfl | (simp [errW_none, errW_some] <;> rfl) | (simp [*, errW_none, errW_some] <;> rfl), by repeat (first | (with_reducible first | exact HB.out | apply below_alloc | apply pw_below_drewN | apply below_drew1 | refine below_set ?_ GE103.out) | exact HB.out)⟩
          · rw [if_neg c5] at H
            exact absurd H (by simp)
        · rw [if_neg c4] at H
          exact absurd H (by simp)
      · rw [if_neg c3] at H
        have c3b0 : decide (x9_1 < (l0.length : Int)) = false := decide_eq_false c3
        clear c3
        replace H := Option.bind_eq_some_iff.mp H
        obtain ⟨t104, A130, H⟩ := H
        replace H : (some (t104, 0, 0)) = some (r1, r2, r3) := H
        have A13 := Aside0.mk A130
        clear A130
        simp only [Option.some.injEq, Prod.mk.injEq] at H
        obtain ⟨rfl, rfl, rfl⟩ := H
        go_wp2_with (first | ((with_reducible refine gate_callee (f := 20) rfl ?_); refine goesL_ (some 27) rfl rfl Tryd.func20 (by kernel_rfl) rfl #[.slice A0 l0.length c0, .string (⟨#[47]⟩ : ByteArray)] rfl (by (try simp only [List.map_toArray, List.map_cons, List.map_nil]); first | done | rfl | (simp only [List.length_drop, List.length_take]; rfl)) ?_; (with_reducible refine (strings_Join.calls _ _ l0 (⟨#[47]⟩ : ByteArray) t104 _ ?side1 ?side2 A13.out).mono ?_); (case side1 => repeat (first | exact (Kd.C_below HR0.out HB.out) | (with_reducible refine Kd.C_alloc ?_ _) | (with_reducible refine Kd.C_drewN ?_ _) | (with_reducible refine Kd.C_drew ?_))); (case side2 => exact HC0.out); rintro e w14 ⟨rfl, hb⟩; refine ⟨_, rfl, ?_⟩; have n0_ := Aside0.mk (blk_below (g := gb103) (o := .cells #[.int .i64 x104000_1, .int .i64 x104001_1] 26 (0, 0)) (by (with_reducible repeat (first | refine blk_drewN ?_ _ | refine blk_drew ?_ | refine blk_alloc ?_ _)); exact BK103.out) hb); have n1_ := Aside0.mk (below_step (by repeat (first | (with_reducible first | exact HB.out | apply below_alloc | apply pw_below_drewN | apply below_drew1 | refine below_set ?_ GE103.out) | exact HB.out)) hb); clear BK103; clear HB; have BK103 := n0_; have HB := n1_; clear n0_ n1_; (try clear hb); (try clear hb2); (try clear hk); (try clear hi); have hcz15_0 : w14.cell? ⟨gb103, 0, none⟩ = some (.int .i64 x104000_1) := (blk_cell BK103.out 0).trans rfl; have hcz15_1 : w14.cell? ⟨gb103, 1, none⟩ = some (.int .i64 x104001_1) := (blk_cell BK103.out 1).trans rfl; have hfz15_0 := blk_frozen BK103.out 0; have hfz15_1 := blk_frozen BK103.out 1))
        refine bodyPost_ret (results_tc rfl _ _ gb103 26 #[.int .i64 0, .int .i64 0] (0, 0) _ rfl (by (with_reducible repeat (first | refine blk_drewN ?_ _ | refine blk_drew ?_ | refine blk_alloc ?_ _)); refine blk_put (cs := #[.int .i64 0, .int .i64 x104001_1]) ?_ 1 _ rfl; (with_reducible repeat (first | refine blk_drewN ?_ _ | refine blk_drew ?_ | refine blk_alloc ?_ _)); refine blk_put (cs := #[.int .i64 x104000_1, .int .i64 x104001_1]) ?_ 0 _ rfl; (with_reducible repeat (first | refine blk_drewN ?_ _ | refine blk_drew ?_ | refine blk_alloc ?_ _)); exact BK103.out) Tryd.underlying26 rfl (by kernel_rfl)) rfl ?_
        exact ⟨by first | rfl | (simp [errW_none, errW_some] <;> rfl) | (simp [*, errW_none, errW_some] <;> rfl), by repeat (first | (with_reducible first | exact HB.out | apply below_alloc | apply pw_below_drewN | apply below_drew1 | refine below_set ?_ GE103.out) | exact HB.out)⟩

end Go.Proofs.YtabgpdpdgkgmbaaDoor.Q
/- A range over a function whose iterator keeps a state of its own in cells: 'Ab' says what the iterator itself may do between two rounds. -/
namespace Go.Proofs.YtabgpdpdgkgmbaaDoor.Loop
open Go.RowKit
set_option linter.unusedVariables false

/-- The iterator's contract: the caller's invariants abide what the iterator does (Ab); a round that goes on keeps what the iterator wants kept (Kp). -/
def SeqAb {α : Type} (F : Fence) (n : Nat) (P : Program) (g : Nat) (lb : Array Value) (encs : α → Array Value) (Ab Kp : World → World → Prop) (S Sp : List α → Prop) (w : World) : Prop :=
  ∀ (l : Nat) (J Jx : List α → World → Prop) (W : World), Below w.heap.size w W → (∀ s A B, J s A → Ab A B → J s B) → (∀ s A B, Jx s A → Ab A B → Jx s B) →
    (∀ pre x W1, J pre W1 → YieldAt F (n - 1) P l (encs x) W1 fun e W' =>
      (e = .returned (.bool true) ∧ J (pre ++ [x]) W' ∧ Kp W1 W') ∨ (e = .returned (.bool false) ∧ Jx (pre ++ [x]) W')) →
    J [] W →
    CallsIn F n P g (#[.func (.yield l) #[] #[]] ++ lb) W fun e W' => (∃ v, e = .returned v) ∧ ((∃ xs, S xs ∧ J xs W') ∨ (∃ pre, Sp pre ∧ Jx pre W'))

/-- What the law itself keeps: the loop's record, and the block for the rounds' deferred calls. -/
structure Book (D : Nat) (r : Loop) (W : World) : Prop where
  loop : W.heap[D + 1]? = some (.loop r)
  defs : W.heap[D]? = some (.deferred (some []))
theorem Book.lt {D : Nat} {r : Loop} {W : World} (h : Book D r W) : D + 1 < W.heap.size := (Array.getElem?_eq_some_iff.1 h.loop).1
theorem Book.put {D : Nat} {r : Loop} {W : World} (h : Book D r W) (r' : Loop) : Book D r' (W.putObj (D + 1) (.loop r')) :=
  ⟨World.putObj_heap_same h.lt, (World.putObj_heap_other (by omega)).trans h.defs⟩
theorem Book.keeps {D : Nat} {r : Loop} {W W' : World} (h : Book D r W) (hk : KeepsOthers W W') : Book D r W' := ⟨hk.same _ _ h.loop rfl, hk.same _ _ h.defs rfl⟩
theorem Book.same {D : Nat} {r : Loop} {W W' : World} (h : Book D r W) (hk : ∀ k, D ≤ k → W'.heap[k]? = W.heap[k]?) : Book D r W' := ⟨(hk _ (by omega)).trans h.loop, (hk _ (by omega)).trans h.defs⟩

section
variable {F : Fence} {n : Nat} {P : Program} {α : Type} {g : Operand} {ps : Array Tmp} {assign body : Code} {Q : Exit → Act → World → Prop} {a : Act} {w : World}
/-- The law for the caller. -/
theorem rangeFunc_ab (hro : F.round = none) (h1 : 1 ≤ n) {gf : Nat} {lb : Array Value} (hg : a.eval g = .func (.func gf) #[] lb) (hFg : F.fn gf) (eg : ∀ args w, (callFunc gf args).run P w = .ok (.enter gf args) w)
    {encs : α → Array Value} {Ab Kp : World → World → Prop} {S Sp : List α → Prop} (hseq : SeqAb F (n - 1) P gf lb encs Ab Kp S Sp w)
    (hAb : ∀ A B, Ab A B → ∀ k, w.heap.size ≤ k → B.heap[k]? = A.heap[k]?)
    (hKt : ∀ {A B C : World}, Kp A B → Kp B C → Kp A C) (hKb : ∀ (W : World) (l : Nat) (o : Obj), w.heap.size ≤ l → Kp W (W.putObj l o)) (hps : ∀ x, (encs x).size = ps.size)
    (I : List α → World → Prop) (Ix : Code → List α → World → Prop) (hI : OwnFrom w.heap.size I) (hIx : ∀ c, OwnFrom w.heap.size (Ix c)) (hIa : ∀ s A B, I s A → Ab A B → I s B) (hIxa : ∀ c s A B, Ix c s A → Ab A B → Ix c s B)
    (h0 : I [] w) (a₁ : α → Act)
    (hassign : ∀ (l : Nat) (x : α) (W : World) (K : Act → World → Prop), K (a₁ x) W →
      assign.wpIn (F.inRound l) (n - 1 - 1) P (Exit.then K (fun _ _ _ => False)) { tmps := (ps.zip (encs x)).foldl (fun t (p, v) => t.setIfInBounds p v) a.tmps, defers := [] } W)
    (hbody : ∀ (l : Nat) (pre : List α) (x : α) (W : World), I pre W → body.wpIn (F.inRound l) (n - 1 - 1) P (ownPostK Kp I Ix (pre ++ [x]) W) (a₁ x) W)
    (hdone : ∀ (D : Nat) (xs : List α) (W : World), w.heap.size ≤ D → S xs → I xs W → W.heap[D]? = some (.deferred (some [])) → Q .normal { a with defers := { target := .collected D, args := #[] } :: a.defers } W)
    (hstop : ∀ (D : Nat) (c : Code) (pre : List α) (W : World), w.heap.size ≤ D → Sp pre → Ix c pre W → W.heap[D]? = some (.deferred (some [])) → c.wpIn F n P Q { a with defers := { target := .collected D, args := #[] } :: a.defers } W) :
    (Code.rangeFunc g ps assign body).wpIn F n P Q a w := by
  refine wpIn_rangeFunc fun fn hfn => ?_
  rw [hro]
  generalize hD : w.heap.size = D at *
  let rec_ : LoopState → Option Code → Loop := fun st pe => { state := st, pending := pe, fn, tmps := a.tmps, params := ps, assign, body, defers := D }
  have hrun := run_enterLoop_outer (P := P) (w := w) fn a.tmps ps assign body
  rw [hD] at hrun
  have hI1 : I [] ((w.alloc (.deferred (some []))).alloc (.loop (rec_ .ready none))) := hI.alloc _ (hI.alloc _ h0)
  have hB1 : Book D (rec_ .ready none) ((w.alloc (.deferred (some []))).alloc (.loop (rec_ .ready none))) := by
    constructor
    · have := World.alloc_heap_new (w.alloc (.deferred (some []))) (.loop (rec_ .ready none))
      rwa [World.size_alloc, hD] at this
    · have := (Below.heap_alloc (w.alloc (.deferred (some []))) (.loop (rec_ .ready none)) w.heap.size (by simp)).trans (World.alloc_heap_new w _)
      rwa [hD] at this
  have hb1 : Below w.heap.size w ((w.alloc (.deferred (some []))).alloc (.loop (rec_ .ready none))) := ((Below.refl _ w).alloc (Nat.le_refl _) _).alloc (by simp) _
  obtain ⟨W0, hW0⟩ : ∃ W0, (w.alloc (.deferred (some []))).alloc (.loop (rec_ .ready none)) = W0 := ⟨_, rfl⟩
  have hrun2 : (Instr.enterLoop fn a.tmps ps assign body none).run P w = .ok (D + 1, [{ target := .collected D, args := #[] }]) W0 := by rw [← hW0]; exact hrun
  rw [hW0] at hI1 hB1 hb1
  refine ⟨D + 1, [{ target := .collected D, args := #[] }], W0, { target := .fn (.func gf) lb, args := #[.func (.yield (D + 1)) #[] #[]] }, W0, gf, #[.func (.yield (D + 1)) #[] #[]] ++ lb, W0, hrun2, ?_, ?_, ?_, fun _ => h1, ?_⟩
  · simp only [resolve, hg]
    simp [go_sem]
  · intro f' hf'
    simp [Target.leads] at hf'
    exact hf' ▸ hFg
  · simp [invoke, go_sem, eg]
  · clear hrun hrun2 hW0
    refine (hseq (D + 1) (fun pre W => I pre W ∧ Book D (rec_ .ready none) W) (fun pre W => ∃ c, Ix c pre W ∧ Book D (rec_ .done (some c)) W) W0 hb1
      (fun s A B hs hab => ⟨hIa s A B hs.1 hab, hs.2.same (hAb A B hab)⟩) (fun s A B hs hab => ⟨hs.choose, hIxa _ s A B hs.choose_spec.1 hab, hs.choose_spec.2.same (hAb A B hab)⟩) ?_ ⟨hI1, hB1⟩).mono ?_
    · rintro pre x W ⟨hi, hb⟩
      refine ⟨fn, _, assign, body, run_yield hb.loop (hps x), roundIn_of_wpIn hfn (hassign _ x W _ ⟨_, run_beginRound hb.loop rfl, ?_⟩)⟩
      have hb2 := hb.put (rec_ .busy none)
      have hk2 : Kp W (W.putObj (D + 1) (.loop (rec_ .busy none))) := hKb _ _ _ (by omega)
      refine wpIn_mono (hbody _ pre x _ (hI.putObj _ hi (by omega) hb.loop rfl)) fun e a3 W3 hp => ?_
      have out : ∀ jump : Option Code, KeepsOthers (W.putObj (D + 1) (.loop (rec_ .busy none))) W3 → Book D (rec_ .busy none) W3 ∧
          (Instr.endRound (D + 1) jump).run P W3 = .ok (.bool jump.isNone) (W3.putObj (D + 1) (.loop (rec_ (if jump.isNone then .ready else .done) jump))) :=
        fun jump hk => ⟨hb2.keeps hk, run_endRound jump (hb2.keeps hk).loop⟩
      match e, hp with
      | .normal, ⟨hk, hkp, hi3⟩ =>
        obtain ⟨hb3, hr⟩ := out none hk
        exact ⟨_, _, hr, .inl ⟨rfl, ⟨hI.putObj _ hi3 (by omega) hb3.loop rfl, hb3.put _⟩, hKt (hKt hk2 hkp) (hKb _ _ _ (by omega))⟩⟩
      | .ret, ⟨hk, hi3⟩ =>
        obtain ⟨hb3, hr⟩ := out (some .ret) hk
        exact ⟨_, _, hr, .inr ⟨rfl, .ret, (hIx _).putObj _ hi3 (by omega) hb3.loop rfl, hb3.put _⟩⟩
      | .exit id, ⟨hk, hi3⟩ =>
        obtain ⟨hb3, hr⟩ := out (some (.exit id)) hk
        exact ⟨_, _, hr, .inr ⟨rfl, .exit id, (hIx _).putObj _ hi3 (by omega) hb3.loop rfl, hb3.put _⟩⟩
      | .goto t, ⟨hk, hi3⟩ =>
        obtain ⟨hb3, hr⟩ := out (some (.goto t)) hk
        exact ⟨_, _, hr, .inr ⟨rfl, .goto t, (hIx _).putObj _ hi3 (by omega) hb3.loop rfl, hb3.put _⟩⟩
    · rintro e W2 ⟨⟨v, rfl⟩, ⟨xs, hS, hi, hb⟩ | ⟨pre, hSp, c, hi, hb⟩⟩
      · exact ⟨none, _, run_endLoop hb.loop (by simp [rec_]), hdone D xs _ (Nat.le_refl _) hS (hI.putObj _ hi (by omega) hb.loop rfl) ((World.putObj_heap_other (by omega)).trans hb.defs)⟩
      · exact ⟨some c, _, run_endLoop hb.loop (by simp [rec_]), hstop D c pre _ (Nat.le_refl _) hSp ((hIx c).putObj _ hi (by omega) hb.loop rfl) ((World.putObj_heap_other (by omega)).trans hb.defs)⟩
end
end Go.Proofs.YtabgpdpdgkgmbaaDoor.Loop
/- Plain lemmas on the pieces of a text between its '/'; no program in sight. -/
set_option linter.unusedVariables false
set_option linter.unusedSimpArgs false
namespace Go.Proofs.YtabgpdpdgkgmbaaDoor.Bytes
open Go.RowKit Go.Proofs.YtabgpdpdgkgmbaaDoorW.PrintWords

/-- The pieces between the bytes c. -/
def cutAt (c : UInt8) : List UInt8 → List (List UInt8)
  | [] => [[]]
  | x :: r => if x = c then [] :: cutAt c r else match cutAt c r with | [] => [[x]] | h :: t => (x :: h) :: t
theorem cutAt_cons (c x : UInt8) (r : List UInt8) : cutAt c (x :: r) = if x = c then [] :: cutAt c r else match cutAt c r with | [] => [[x]] | h :: t => (x :: h) :: t := rfl
theorem cutAt_ne (c : UInt8) (l : List UInt8) : cutAt c l ≠ [] := by
  cases l with
  | nil => simp [cutAt]
  | cons x r =>
    unfold cutAt
    split
    · simp
    · split <;> simp
/-- No c in it: one piece. -/
theorem cutAt_none (c : UInt8) : ∀ (l : List UInt8), c ∉ l → cutAt c l = [l]
  | [], _ => rfl
  | x :: r, h => by
    have h1 : x ≠ c := fun e => h (e ▸ List.mem_cons_self)
    have h2 : c ∉ r := fun e => h (List.mem_cons_of_mem _ e)
    rw [cutAt_cons, if_neg h1, cutAt_none c r h2]
/-- The first c: the piece ahead of it, and the pieces behind. -/
theorem cutAt_some (c : UInt8) : ∀ (a b : List UInt8), c ∉ a → cutAt c (a ++ c :: b) = a :: cutAt c b
  | [], b, _ => by simp [cutAt]
  | x :: r, b, h => by
    have h1 : x ≠ c := fun e => h (e ▸ List.mem_cons_self)
    have h2 : c ∉ r := fun e => h (List.mem_cons_of_mem _ e)
    rw [List.cons_append, cutAt_cons, if_neg h1, cutAt_some c r b h2]
theorem cutAt_neg (c : UInt8) (l : List UInt8) (h : Lib.indexByte l c < 0) : cutAt c l = [l] := by
  have h1 : Lib.indexByte l c = -1 := by have := Lib.indexByte_ge l c; omega
  refine cutAt_none c l fun hm => ?_
  obtain ⟨k, hk, e⟩ := List.getElem_of_mem hm
  exact Lib.indexByte_none h1 k (by rw [List.getElem?_eq_getElem hk, e])
theorem cutAt_idx (c : UInt8) (l : List UInt8) (o : Nat) (h : Lib.indexByte l c = (o : Int)) : o < l.length ∧ cutAt c l = l.take o :: cutAt c (l.drop (o + 1)) := by
  obtain ⟨h1, h2⟩ := Lib.indexByte_some h
  obtain ⟨hlt, he⟩ := List.getElem?_eq_some_iff.1 h1
  refine ⟨hlt, ?_⟩
  have e : l = l.take o ++ c :: l.drop (o + 1) := by
    conv => lhs; rw [← List.take_append_drop o l, List.drop_eq_getElem_cons hlt, he]
  have hn : c ∉ l.take o := by
    intro hm
    obtain ⟨k, hk, e⟩ := List.getElem_of_mem hm
    rw [List.length_take] at hk
    rw [List.getElem_take] at e
    exact h2 k (by omega) (by rw [List.getElem?_eq_getElem (by omega), e])
  conv => lhs; rw [e]
  exact cutAt_some c _ _ hn
end Go.Proofs.YtabgpdpdgkgmbaaDoor.Bytes
/- strings.SplitSeq at the separator "/": its iterator's contract (it keeps what is left of the text in a variable of its own). -/
namespace Go.Proofs.YtabgpdpdgkgmbaaDoor.Loop
open Go.RowKit Go.Shelf Go.Proofs.YtabgpdpdgkgmbaaDoor.Bytes
set_option linter.unusedVariables false
set_option linter.unusedSimpArgs false
attribute [local go_sem] Oper.semAt_some

def slash : ByteArray := ⟨#[47]⟩
/-- The string in a variable's box: its length; for the measure. -/
def boxLen (b : Nat) (w : World) : Nat := match w.cell? ⟨b, 0, none⟩ with | some (.string t) => t.size | _ => 0
theorem boxLen_of {b : Nat} {w : World} {t : ByteArray} (h : w.cell? ⟨b, 0, none⟩ = some (.string t)) : boxLen b w = t.size := by simp [boxLen, h]
/-- What the iterator itself turns: the box of what is left. -/
def SeqTurn (b : Nat) (A B : World) : Prop := ∃ v : Value, B = A.setCell ⟨b, 0, none⟩ v
/-- What a round must keep: the iterator's three boxes. -/
def SeqKeep (b : Nat) (A B : World) : Prop := ∀ k, b ≤ k → k < b + 3 → B.heap[k]? = A.heap[k]?
theorem SeqKeep.trans {b : Nat} {A B C : World} (h : SeqKeep b A B) (k : SeqKeep b B C) : SeqKeep b A C := fun i h1 h2 => (k i h1 h2).trans (h i h1 h2)
theorem SeqKeep.refl (b : Nat) (A : World) : SeqKeep b A A := fun _ _ _ => rfl
/-- The three boxes as they stand. -/
structure SeqAt (b : Nat) (rest : ByteArray) (W : World) : Prop where
  s : Boxed W b 9 (.string rest)
  sep : Boxed W (b + 1) 9 (.string slash)
  save : Boxed W (b + 2) 3 (.int .i64 0)
theorem SeqAt.keep {b : Nat} {r : ByteArray} {A B : World} (h : SeqAt b r A) (k : SeqKeep b A B) : SeqAt b r B :=
  ⟨(k b (by omega) (by omega)).trans h.s, (k _ (by omega) (by omega)).trans h.sep, (k _ (by omega) (by omega)).trans h.save⟩
theorem SeqAt.set {b : Nat} {r : ByteArray} {A : World} (h : SeqAt b r A) (r' : ByteArray) : SeqAt b r' (A.setCell ⟨b, 0, none⟩ (.string r')) :=
  ⟨h.s.set _, h.sep.kept (grownBy_setCell' A b _) (by simp), h.save.kept (grownBy_setCell' A b _) (by simp)⟩

set_option maxRecDepth 100000 in
set_option maxHeartbeats 1000000 in
theorem splitSeq_calls (s : ByteArray) (w : World) :
    Calls Tryd.prog 18 #[.string s, .string slash] w fun e w' => e = .returned (.func (.func 30) #[] #[.pointer (some ⟨w.heap.size + 1, 0, none⟩), .pointer (some ⟨w.heap.size, 0, none⟩), .pointer (some ⟨w.heap.size + 2, 0, none⟩)]) ∧
      w' = ((w.alloc (.cells #[.string s] 9)).alloc (.cells #[.string slash] 9)).alloc (.cells #[.int .i64 0] 3) := by
  have hmf : ∀ (fn : Fn) (first cap : Array Value) (w : World), (Instr.makeFunc fn first cap).run Tryd.prog w = .ok (.func fn first cap) w := fun _ _ _ _ => rfl
  go_enter Tryd.func18, Tryd.ntmps18
  go_wp2
  go_ret
  exact ⟨rfl, rfl⟩

set_option maxRecDepth 100000 in
set_option maxHeartbeats 4000000 in
theorem seq_in (F : Fence) (n : Nat) (hF : F = Fence.wide) (l b : Nat) (path : ByteArray) (J Jx : List ByteArray → World → Prop)
    (hJ : ∀ s A B, J s A → SeqTurn b A B → J s B) (hJx : ∀ s A B, Jx s A → SeqTurn b A B → Jx s B)
    (hY : ∀ pre x W, J pre W → YieldAt F (n - 1) Tryd.prog l #[.string x] W fun e W' =>
      (e = .returned (.bool true) ∧ J (pre ++ [x]) W' ∧ SeqKeep b W W') ∨ (e = .returned (.bool false) ∧ Jx (pre ++ [x]) W'))
    (hp : path.size ≤ 140737488355328) (W : World) (hS : SeqAt b path W) (h0 : J [] W) :
    CallsIn F n Tryd.prog 30 #[.func (.yield l) #[] #[], .pointer (some ⟨b + 1, 0, none⟩), .pointer (some ⟨b, 0, none⟩), .pointer (some ⟨b + 2, 0, none⟩)] W fun e W' => (∃ v, e = .returned v) ∧
      ((∃ ys : List ByteArray, ys.map bs = cutAt 47 (bs path) ∧ J ys W') ∨ (∃ pre : List ByteArray, pre.map bs <+: cutAt 47 (bs path) ∧ Jx pre W')) := by
  subst hF
  refine callsIn_of_wp Tryd.func30 rfl trivial ?_ rfl
  simp only [Tryd.ntmps30, List.size_toArray, List.length_cons, List.length_nil, Nat.reduceAdd, Nat.reduceSub, Array.replicate_succ, Array.replicate_zero, List.push_toArray, List.append_toArray, List.nil_append, List.cons_append]
  have c0 := hS.s.cell
  have c1 := hS.sep.cell
  have c2 := hS.save.cell
  have hl : slash.size = 1 := rfl
  gi_wp2
  gi_loopw [7] (fun i wr => ∃ (pre : List ByteArray) (rest : ByteArray), SeqAt b rest wr ∧ rest.size ≤ path.size ∧ cutAt 47 (bs path) = pre.map bs ++ cutAt 47 (bs rest) ∧ J pre wr) (fun i wr => boxLen b wr)
  case atStart => exact ⟨[], path, hS, Nat.le_refl _, rfl, h0⟩
  case round =>
    obtain ⟨pre, rest, hA, hsz, hc, hj⟩ := hrel
    have d0 := hA.s.cell
    have d1 := hA.sep.cell
    have d2 := hA.save.cell
    by_cases hneg : Lib.indexByte rest.data.toList 47 < 0
    · have hcut := cutAt_neg 47 (bs rest) hneg
      obtain ⟨fn, tmps, assign, body, hy, hR⟩ := hY pre rest wr hj
      gi_wp2_with (refine ⟨trivial, (fun h => by cases h), ?_⟩; gi_at_call 32; refine (callsIn_wide.2 (Tryd.strings_Index_one rest 47 _)).mono ?_; rintro e w' ⟨rfl, he⟩; subst he)
      refine ⟨(fun h => by cases h), ?_⟩
      refine hR.mono ?_
      rintro e W3 (⟨rfl, hJ3, hk3⟩ | ⟨rfl, hJx3⟩)
      · gi_wp2
        go_end0
        exact ⟨⟨_, rfl⟩, .inl ⟨pre ++ [rest], by rw [hc, hcut, List.map_append]; rfl, hJ3⟩⟩
      · gi_wp2
        go_end0
        exact ⟨⟨_, rfl⟩, .inr ⟨pre ++ [rest], by rw [hc, hcut, List.map_append]; exact List.prefix_refl _, hJx3⟩⟩
    · obtain ⟨o, ho⟩ := Int.eq_ofNat_of_zero_le (show 0 ≤ Lib.indexByte rest.data.toList 47 by omega)
      obtain ⟨hlt, hcut⟩ := cutAt_idx 47 (bs rest) o ho
      rw [← size_bs] at hlt
      have hz : (rest.extract (o + 1) rest.size).size = rest.size - (o + 1) := by rw [size_bs, bs_extract, List.length_take, List.length_drop, ← size_bs]; omega
      have hcc : cutAt 47 (bs path) = (pre ++ [rest.extract 0 o]).map bs ++ cutAt 47 (bs (rest.extract (o + 1) rest.size)) := by
        have e1 : bs (rest.extract 0 o) = (bs rest).take o := by rw [bs_extract, List.drop_zero, Nat.sub_zero]
        have e2 : bs (rest.extract (o + 1) rest.size) = (bs rest).drop (o + 1) := by rw [bs_extract, List.take_of_length_le (by rw [List.length_drop, ← size_bs]; omega)]
        rw [hc, hcut, List.map_append, List.map_cons, List.map_nil, e1, e2, List.append_assoc, List.singleton_append]
      have hw : wrap64 (o : Int) = o := w64 (by omega) (by omega)
      have hw1 : wrap64 ((o : Int) + 1) = ((o + 1 : Nat) : Int) := by rw [w64 (by omega) (by omega)]; omega
      obtain ⟨fn, tmps, assign, body, hy, hR⟩ := hY pre (rest.extract 0 o) wr hj
      gi_wp2_with (refine ⟨trivial, (fun h => by cases h), ?_⟩; gi_at_call 32; refine (callsIn_wide.2 (Tryd.strings_Index_one rest 47 _)).mono ?_; rintro e w' ⟨rfl, he⟩; subst he)
      refine ⟨(fun h => by cases h), ?_⟩
      refine hR.mono ?_
      rintro e W3 (⟨rfl, hJ3, hk3⟩ | ⟨rfl, hJx3⟩)
      · have hA3 := hA.keep hk3
        have e0 := hA3.s.cell
        have e1 := hA3.sep.cell
        have e2 := hA3.save.cell
        have e3 := hA3.s.frozen
        gi_wp2
        go_roundw
        case rel => exact ⟨pre ++ [rest.extract 0 o], _, hA3.set _, by rw [hz]; omega, hcc, hJ _ _ _ hJ3 ⟨_, rfl⟩⟩
        case measure => rw [boxLen_of d0, boxLen_of (hA3.set _).s.cell, hz]; omega
      · gi_wp2
        refine bodyPost_ret (results_none rfl _ _ _) rfl ?_
        exact ⟨⟨_, rfl⟩, .inr ⟨pre ++ [rest.extract 0 o], by rw [hcc]; exact List.prefix_append _ _, hJx3⟩⟩
end Go.Proofs.YtabgpdpdgkgmbaaDoor.Loop
/- What stands in memory while name.Split goes over the pieces: one structure, and how it moves; append inside a fence, with the word where the new row lies. -/
namespace Go.Proofs.YtabgpdpdgkgmbaaDoor.Loop
open Go.RowKit Go.Shelf Go.Proofs.YtabgpdpdgkgmbaaDoor.Bytes
set_option linter.unusedVariables false
set_option linter.unusedSimpArgs false

theorem run_append_sep {P : Program} (w : World) (base : Nat) (t ty e : TypeId) (i : TypeInfo) (z : Value) (bytes : Nat) (ht : P.underlying t = some (.slice e)) (hi : P.info? e = some i) (hz : i.zero = some z)
    (hsize : i.size = 1) (hby : i.bytes = bytes) (hzs : z.cells.size = 1) (g n cap : Nat) (xs : List Value) (hown : w.ownsRow base e 1 (.slice (some ⟨g, 0, none⟩) n cap) n xs)
    (a : Addr) (c : Nat) (x : Value) (hx : w.cell? a = some x) (ha : a.add 0 = a) (h1 : x.oneCell' = true) (h63 : n + 1 ≤ maxLen) (hbytes : (n + 1) * bytes ≤ 140737488355328) (hbase : base ≤ w.heap.size) :
    ∃ g' cap' w', (Builtin.append_ #[t, t] ty #[.slice (some ⟨g, 0, none⟩) n cap, .slice (some a) 1 c]).run P w = .ok (.slice (some ⟨g', 0, none⟩) (n + 1) cap') w' ∧
      w'.ownsRow base e 1 (.slice (some ⟨g', 0, none⟩) (n + 1) cap') (n + 1) (xs ++ [x]) ∧ w.grownBy w' (some g) ∧ (g' = g ∨ w.heap.size ≤ g') := by
  have hnews : ∀ j u, [x][j]? = some u → w.cell? (a.add j) = some u := by
    intro j u hu
    match j, hu with
    | 0, hu => rw [ha, hx]; simpa using hu
    | j + 1, hu => simp at hu
  obtain ⟨v', w', hr, h2, h3, _⟩ := run_append_own (P := P) w base t ty e i z 1 bytes ht hi hz hsize hby hzs (by decide) _ n xs hown a 1 c [x] rfl hnews (by simpa using h1) h63 hbytes hbase
  have hown' := hown
  rcases hown.2 with ⟨e0, _⟩ | ⟨g0, cap0, cur, e0, hbg, hg, hnc, hcm, hcs, htake⟩
  · cases e0
  · cases e0
    by_cases hroom : n + 1 ≤ cap
    · have hr2 := run_append_room (P := P) w t ty e i ht hi g n cap cur hg a 1 c [x] (by rw [hsize]; rfl) hnews (by simpa using h1) hroom (by rw [hcs, hsize]; simpa using hroom)
      have e1 := hr2.symm.trans hr
      injection e1 with e1 e2
      subst e1
      exact ⟨g, cap, w', hr, h2, h3, .inl rfl⟩
    · have hr2 := run_append_grow (P := P) w t ty e i z ht hi hz ⟨g, 0, none⟩ n cap xs (by rw [hsize]; exact hown.1) (hown.cells (g := g) rfl) a 1 c [x] (by rw [hsize]; rfl) hnews (by omega) (by simp only [maxLen] at h63; omega)
        (growslice_fits (by omega) (by rw [hby]; exact hbytes))
      have e1 := hr2.symm.trans hr
      injection e1 with e1 e2
      subst e1
      exact ⟨w.heap.size, _, w', hr, h2, h3, .inr (Nat.le_refl _)⟩

theorem append_sep {F : Fence} {n : Nat} {P : Program} (w : World) {ops : Array Oper} {rest : List Oper} {o : Oper} {a : Act} {Q : Exit → Act → World → Prop}
    (hg : o.guard = none) (s x : Operand) (t : TypeId) (hop : o.op = Op.call { callee := Callee.builtin Builtin.append, args := #[s, x], argTypes := #[t, t] })
    (base : Nat) (e : TypeId) (i : TypeInfo) (z : Value) (bytes : Nat) (ht : P.underlying t = some (.slice e)) (hi : P.info? e = some i) (hz : i.zero = some z)
    (hsize : i.size = 1) (hby : i.bytes = bytes) (hzs : z.cells.size = 1) (g k cap : Nat) (xs : List Value) (hs : a.eval s = .slice (some ⟨g, 0, none⟩) k cap) (hown : w.ownsRow base e 1 (.slice (some ⟨g, 0, none⟩) k cap) k xs)
    (ad : Addr) (c : Nat) (y : Value) (hx : a.eval x = .slice (some ad) 1 c) (hy : w.cell? ad = some y) (ha : ad.add 0 = ad) (h1 : y.oneCell' = true) (h63 : k + 1 ≤ maxLen) (hbytes : (k + 1) * bytes ≤ 140737488355328) (hbase : base ≤ w.heap.size)
    (hK : ∀ g' cap' w', w'.ownsRow base e 1 (.slice (some ⟨g', 0, none⟩) (k + 1) cap') (k + 1) (xs ++ [y]) → w.grownBy w' (some g) → (g' = g ∨ w.heap.size ≤ g') → wpListIn F n P ops Q rest (a.put o.dst (.slice (some ⟨g', 0, none⟩) (k + 1) cap')) w') :
    wpListIn F n P ops Q (o :: rest) a w := by
  refine wpListIn_plain hg fun K hK' => ?_
  obtain ⟨g', cap', w', hrun, r1, r2, r3⟩ := run_append_sep (P := P) w base t o.type e i z bytes ht hi hz hsize hby hzs g k cap xs hown ad c y hy ha h1 h63 hbytes hbase
  unfold Oper.wpIn
  refine ⟨?_, ?_⟩
  · simp [Oper.about, hop, resolve, Target.leads, Sem.run_pure]
  · rw [Oper.semAt_plain F _ _ (by rw [hop]; intro c hc'; cases hc')]
    simp [execOp, hop, resolve, invoke, builtin, hs, hx, hrun, Result.andThen]
    exact hK' _ _ (hK g' cap' w' r1 r2 r3)

/-- The place behind these pieces. -/
def atOf : List ByteArray → Int := List.foldl (fun a x => wrap64 (a + wrap64 ((x.size : Int) + 1))) 0
theorem atOf_snoc (pre : List ByteArray) (x : ByteArray) : atOf (pre ++ [x]) = wrap64 (atOf pre + wrap64 ((x.size : Int) + 1)) := by simp [atOf]

/-- Split's own boxes, the names so far being pre: n0: the result; n0 + 1: the fault; n0 + 2: the first row; n0 + 3: names; n0 + 4: at; from n0 + 5 the iterator's three. -/
structure NS (n0 : Nat) (w : World) (pre : List ByteArray) (W : World) : Prop where
  r : Boxed W n0 23 (.slice none 0 0)
  f : W.heap[n0 + 1]? = some (.cells #[.int .i64 0, .int .i64 0] 26 (0, 0))
  row : ∃ g cap, Boxed W (n0 + 3) 23 (.slice (some ⟨g, 0, none⟩) pre.length cap) ∧ W.ownsRow n0 9 1 (.slice (some ⟨g, 0, none⟩) pre.length cap) pre.length (pre.map Value.string) ∧ (g = n0 + 2 ∨ n0 + 8 ≤ g)
  at_ : Boxed W (n0 + 4) 3 (.int .i64 (atOf pre))
  below : Below n0 w W
  size : n0 + 8 ≤ W.heap.size
theorem NS.move {n0 : Nat} {w W W' : World} {pre : List ByteArray} (h : NS n0 w pre W) (hs : ∀ k, k < W.heap.size → (k < n0 + 5 ∨ (n0 + 8 ≤ k ∧ ∃ cs, W.heap[k]? = some (.cells cs 9 (0, 0)))) → W'.heap[k]? = W.heap[k]?)
    (hB : Below n0 w W') (hz : W.heap.size ≤ W'.heap.size) : NS n0 w pre W' := by
  have hz8 := h.size
  obtain ⟨g, cap, hb, ho, hg⟩ := h.row
  refine ⟨(hs _ (by omega) (.inl (by omega))).trans h.r, (hs _ (by omega) (.inl (by omega))).trans h.f, ⟨g, cap, (hs _ (by omega) (.inl (by omega))).trans hb, ?_, hg⟩, (hs _ (by omega) (.inl (by omega))).trans h.at_, hB, by omega⟩
  rcases ho.2 with ⟨e0, _⟩ | ⟨g0, cap0, cur, e0, hbg, hgg, hrest⟩
  · cases e0
  · cases e0
    refine ⟨ho.1, .inr ⟨g, cap, cur, rfl, hbg, (hs g (Array.getElem?_eq_some_iff.1 hgg).1 ?_).trans hgg, hrest⟩⟩
    rcases hg with e | e
    · exact .inl (by omega)
    · exact .inr ⟨e, cur, hgg⟩
/-- Another call has been made: all that lay lies as it lay. -/
theorem NS.call {n0 : Nat} {w W W' : World} {pre : List ByteArray} (h : NS n0 w pre W) (hb : Below W.heap.size W W') : NS n0 w pre W' :=
  h.move (fun k hk _ => hb.block k hk) (h.below.trans (hb.mono (by have := h.size; omega))) hb.size
/-- The iterator has turned its own box. -/
theorem NS.turn {n0 : Nat} {w W W' : World} {pre : List ByteArray} (h : NS n0 w pre W) (ht : SeqTurn (n0 + 5) W W') : NS n0 w pre W' := by
  obtain ⟨v, rfl⟩ := ht
  exact h.move (fun k hk hc => Below.heap_setCell _ _ _ k (by show k ≠ n0 + 5; omega)) (h.below.setCell (p := ⟨n0 + 5, 0, none⟩) (by show n0 ≤ n0 + 5; omega) _) (KeepsWalks.setCell W _ v).size
/-- The loop's own book-keeping. -/
theorem NS.own {n0 : Nat} {w W W' : World} {pre : List ByteArray} {row : Option Nat} (h : NS n0 w pre W) (hg : W.grownBy W' row) (hr : ∀ r, row = some r → n0 + 8 ≤ r ∧ ∃ o : Obj, W.heap[r]? = some o ∧ o.isCells = false) : NS n0 w pre W' := by
  refine h.move (fun k hk hc => hg.block k hk fun e => ?_) (h.below.grown hg (by have := h.size; omega) (fun k e => by have := (hr k e).1; omega)) hg.size
  obtain ⟨h8, o, ho, hcl⟩ := hr k e.symm
  rcases hc with hc | ⟨_, cs, hcs⟩
  · omega
  · rw [hcs] at ho
    cases ho
    cases hcl
theorem keeps_of_below {W W' : World} (hb : Below W.heap.size W W') : KeepsOthers W W' := ⟨hb.size, fun k o hk _ => (hb.block k (Array.getElem?_eq_some_iff.1 hk).1).trans hk⟩
theorem SeqKeep.call {b : Nat} {W W' : World} (hb : Below W.heap.size W W') (h : b + 3 ≤ W.heap.size) : SeqKeep b W W' := fun k _ h2 => hb.block k (by omega)

/-- names = append(names, s); at += len(s) + 1. -/
theorem NS.took {n0 : Nat} {w W w1 : World} {pre : List ByteArray} {x : ByteArray} {g cap g' cap' : Nat} {tmp : Obj} (h : NS n0 w pre W)
    (hb : Boxed W (n0 + 3) 23 (.slice (some ⟨g, 0, none⟩) pre.length cap)) (ho : W.ownsRow n0 9 1 (.slice (some ⟨g, 0, none⟩) pre.length cap) pre.length (pre.map Value.string)) (hg : g = n0 + 2 ∨ n0 + 8 ≤ g)
    (ho' : w1.ownsRow n0 9 1 (.slice (some ⟨g', 0, none⟩) (pre.length + 1) cap') (pre.length + 1) (pre.map Value.string ++ [.string x])) (hgr : (W.alloc tmp).grownBy w1 (some g)) (hg' : g' = g ∨ (W.alloc tmp).heap.size ≤ g') :
    Boxed w1 (n0 + 3) 23 (.slice (some ⟨g, 0, none⟩) pre.length cap) ∧ Boxed (w1.setCell ⟨n0 + 3, 0, none⟩ (.slice (some ⟨g', 0, none⟩) (pre.length + 1) cap')) (n0 + 4) 3 (.int .i64 (atOf pre)) ∧
      ∀ y, y = atOf (pre ++ [x]) → NS n0 w (pre ++ [x]) ((w1.setCell ⟨n0 + 3, 0, none⟩ (.slice (some ⟨g', 0, none⟩) (pre.length + 1) cap')).setCell ⟨n0 + 4, 0, none⟩ (.int .i64 y)) ∧
        KeepsOthers W ((w1.setCell ⟨n0 + 3, 0, none⟩ (.slice (some ⟨g', 0, none⟩) (pre.length + 1) cap')).setCell ⟨n0 + 4, 0, none⟩ (.int .i64 y)) ∧
        SeqKeep (n0 + 5) W ((w1.setCell ⟨n0 + 3, 0, none⟩ (.slice (some ⟨g', 0, none⟩) (pre.length + 1) cap')).setCell ⟨n0 + 4, 0, none⟩ (.int .i64 y)) := by
  have hz := h.size
  have hgb : (Value.slice (some ⟨g, 0, none⟩) pre.length cap).ownBlock = some g := rfl
  obtain ⟨a1, a2, a3, a4, a5⟩ := hb.appended (by decide) ho (by omega) (by omega) ho' (by rw [hgb]; exact hgr)
  have nb : ∀ {B t v}, Boxed W B t v → B ≠ g → Boxed w1 B t v := fun hB hne => (hB.alloc tmp).kept hgr (by simpa using hne)
  have hat : Boxed w1 (n0 + 4) 3 (.int .i64 (atOf pre)) := nb h.at_ (by omega)
  refine ⟨a1, hat.other (by omega) _, fun y hy => ?_⟩
  subst hy
  have o1 : Boxed w1 n0 23 (.slice none 0 0) := nb h.r (by omega)
  have of : w1.heap[n0 + 1]? = some (.cells #[.int .i64 0, .int .i64 0] 26 (0, 0)) :=
    (hgr.block _ (by simp; omega) (by simp; omega)).trans ((World.grownBy_alloc W tmp none).block _ (by omega) (by simp) |>.trans h.f)
  refine ⟨⟨(o1.other (by omega) _).other (by omega) _, ?_, ⟨g', cap', ?_, ?_, ?_⟩, (hat.other (by omega) _).set _, ?_, ?_⟩, a4.trans (KeepsOthers.setCell _ _ _), ?_⟩
  · rw [Below.heap_setCell _ _ _ _ (by show n0 + 1 ≠ n0 + 4; omega), Below.heap_setCell _ _ _ _ (by show n0 + 1 ≠ n0 + 3; omega)]
    exact of
  · have := a2.other (B' := n0 + 4) (by omega) (.int .i64 (atOf (pre ++ [x])))
    simpa using this
  · have := a3.kept (grownBy_setCell' _ (n0 + 4) (.int .i64 (atOf (pre ++ [x])))) (.inr (by
      have : g' ≠ n0 + 4 := by
        simp only [World.size_alloc] at hg'
        omega
      simpa [Value.ownBlock] using this))
    simpa using this
  · simp only [World.size_alloc] at hg'
    omega
  · exact (h.below.trans a5).setCell (p := ⟨n0 + 4, 0, none⟩) (by show n0 ≤ n0 + 4; omega) _
  · have s1 := a5.size
    have s2 := (KeepsWalks.setCell (w1.setCell ⟨n0 + 3, 0, none⟩ (.slice (some ⟨g', 0, none⟩) (pre.length + 1) cap')) ⟨n0 + 4, 0, none⟩ (.int .i64 (atOf (pre ++ [x])))).size
    omega
  · intro k h1 h2
    rw [Below.heap_setCell _ _ _ _ (by show k ≠ n0 + 4; omega), Below.heap_setCell _ _ _ _ (by show k ≠ n0 + 3; omega), hgr.block k (by simp; omega) (by simp; omega)]
    exact (World.grownBy_alloc W tmp none).block k (by omega) (by simp)
end Go.Proofs.YtabgpdpdgkgmbaaDoor.Loop
/- By a program of this session's: a plain Lean function for a Go function, and its contract. -/
namespace Go.Proofs.YtabgpdpdgkgmbaaDoor.Q
open Go.RowKit Go.Proofs.YtabgpdpdgkgmbaaDoorW.PrintWords Go.Proofs.YtabgpdpdgkgmbaaDoorW.PrintLast Go.Proofs.YtabgpdpdgkgmbaaDoorW.PrintMore
attribute [local go_sem] max2_int min2_int max_two min_two max_three min_three max_four min_four Go.Proofs.YtabgpdpdgkgmbaaDoor.Ord.str_leq Go.Proofs.YtabgpdpdgkgmbaaDoor.Ord.str_gtr Go.Proofs.YtabgpdpdgkgmbaaDoor.Ord.str_geq   -- for this text's walks alone
set_option linter.unusedVariables false
set_option linter.unusedSimpArgs false

/-! ### depotref05_Check: function 19 -/
mutual
def depotref05_Check.l0 : Nat → ByteArray → Int → Int → Option (Int)
  | 0, _, _, _ => none
  | k + 1, x0, x3, x4 => if x4 < (x0.size : Int) then (if 0 ≤ x4 then (if (bt x0 x4) = 47 then (depotref05_Check.j1 k x0 x3 x4 true) else (depotref05_Check.j1 k x0 x3 x4 ((bt x0 x4) == 0))) else (none)) else (if x3 = (x0.size : Int) then (if x3 ≤ 2 then (some 52) else (some 0)) else (some 0))
def depotref05_Check.j1 : Nat → ByteArray → Int → Int → Bool → Option (Int)
  | 0, _, _, _, _ => none
  | k + 1, x0, x3, x4, x26 => if x26 = true then (some 51) else (if 0 ≤ x4 then (if x4 < (x0.size : Int) then (if (bt x0 x4) = 46 then (depotref05_Check.l0 k x0 (wrap64 (x3 + 1)) (wrap64 (x4 + 1))) else (depotref05_Check.l0 k x0 x3 (wrap64 (x4 + 1)))) else (none)) else (none))
end
def depotref05_Check.f (k : Nat) (a0 : ByteArray) : Option (Int) := if (a0.size : Int) = 0 then (some 50) else (if (a0.size : Int) > 255 then (some 6) else (depotref05_Check.l0 k a0 0 0))
theorem depotref05_Check.mono_l : ∀ k, (∀ y0 y1 y2, LeO (depotref05_Check.l0 k y0 y1 y2) (depotref05_Check.l0 (k + 1) y0 y1 y2)) ∧ (∀ y0 y1 y2 y3, LeO (depotref05_Check.j1 k y0 y1 y2 y3) (depotref05_Check.j1 (k + 1) y0 y1 y2 y3))
  | 0 => ⟨fun _ _ _ r h => by simp [depotref05_Check.l0] at h, fun _ _ _ _ r h => by simp [depotref05_Check.j1] at h⟩
  | k + 1 => by
    obtain ⟨ih0, ih1⟩ := depotref05_Check.mono_l k
    refine ⟨?_, ?_⟩
    · intro y0 y1 y2
      unfold depotref05_Check.l0
      repeat' first
      | (with_reducible exact ih0 _ _ _)
      | (with_reducible exact ih1 _ _ _ _)
      | (with_reducible exact LeO.refl _)
      | (with_reducible exact LeO.none _)
      | (with_reducible refine LeO.ite ?_ ?_)
      | (with_reducible refine LeO.bind ?_ (fun _ => ?_))
      | exact ih0 _ _ _
      | exact ih1 _ _ _ _
      | exact LeO.none _
      | refine LeO.ite ?_ ?_
      | refine LeO.bind ?_ (fun _ => ?_)
    · intro y0 y1 y2 y3
      unfold depotref05_Check.j1
      repeat' first
      | (with_reducible exact ih0 _ _ _)
      | (with_reducible exact ih1 _ _ _ _)
      | (with_reducible exact LeO.refl _)
      | (with_reducible exact LeO.none _)
      | (with_reducible refine LeO.ite ?_ ?_)
      | (with_reducible refine LeO.bind ?_ (fun _ => ?_))
      | exact ih0 _ _ _
      | exact ih1 _ _ _ _
      | exact LeO.none _
      | refine LeO.ite ?_ ?_
      | refine LeO.bind ?_ (fun _ => ?_)
theorem depotref05_Check.mono : ∀ a0 k, LeO (depotref05_Check.f k a0) (depotref05_Check.f (k + 1) a0) := by
  intro a0 k
  obtain ⟨ih0, ih1⟩ := depotref05_Check.mono_l k
  unfold depotref05_Check.f
  repeat' first
      | (with_reducible exact ih0 _ _ _)
      | (with_reducible exact ih1 _ _ _ _)
      | (with_reducible exact LeO.refl _)
      | (with_reducible exact LeO.none _)
      | (with_reducible refine LeO.ite ?_ ?_)
      | (with_reducible refine LeO.bind ?_ (fun _ => ?_))
      | exact ih0 _ _ _
      | exact ih1 _ _ _ _
      | exact LeO.none _
      | refine LeO.ite ?_ ?_
      | refine LeO.bind ?_ (fun _ => ?_)
set_option maxHeartbeats 8000000 in
set_option maxRecDepth 100000 in
theorem depotref05_Check.calls (k : Nat) (a0 : ByteArray) (r : Int) (w : World) (h : depotref05_Check.f k a0 = some r) :
    Calls Tryd.prog 19 #[.string a0] w fun e w' => e = .returned (.int .i64 r) ∧ Drawn0 w w' := by
  have H : (if (a0.size : Int) = 0 then (some 50) else (if (a0.size : Int) > 255 then (some 6) else (depotref05_Check.l0 k a0 0 0))) = some r := h
  clear h
  by_cases c2 : (a0.size : Int) = 0
  · rw [if_pos c2] at H
    have c2b0 : ((a0.size : Int) == 0) = true := beq_iff_eq.mpr c2
    have c2b1 : ((a0.size : Int) != 0) = false := bne_eq_false_iff_eq.mpr c2
    clear c2
    obtain rfl := Option.some.inj H
    go_enter Tryd.func19, Tryd.ntmps19
    go_wp2
    go_ret
    exact ⟨by first | rfl | (simp; done) | (simp [*]; done), by repeat (first | exact Drawn0.refl _ | apply Drawn0.step)⟩
  · rw [if_neg c2] at H
    have c2b0 : ((a0.size : Int) == 0) = false := beq_eq_false_iff_ne.mpr c2
    have c2b1 : ((a0.size : Int) != 0) = true := bne_iff_ne.mpr c2
    by_cases c3 : (a0.size : Int) > 255
    · rw [if_pos c3] at H
      have c3b0 : decide (255 < (a0.size : Int)) = true := decide_eq_true c3
      have c3b1 : decide (255 < a0.size) = true := decide_eq_true (by omega)
      clear c3
      obtain rfl := Option.some.inj H
      go_enter Tryd.func19, Tryd.ntmps19
      go_wp2
      go_ret
      exact ⟨by first | rfl | (simp; done) | (simp [*]; done), by repeat (first | exact Drawn0.refl _ | apply Drawn0.step)⟩
    · rw [if_neg c3] at H
      have c3b0 : decide (255 < (a0.size : Int)) = false := decide_eq_false c3
      have c3b1 : decide (255 < a0.size) = false := decide_eq_false (by omega)
      clear c3
      have H' := Aside0.mk H
      clear H
      go_enter Tryd.func19, Tryd.ntmps19
      go_wp2
      go_loopg [3, 4] k (fun kq v3 v4 w' => ∃ (x3_1 : Int) (x4_1 : Int), v3 = .int .i64 x3_1 ∧ v4 = .int .i64 x4_1 ∧ Aside0 (depotref05_Check.l0 kq a0 x3_1 x4_1 = some r) ∧ Aside0 (kq ≤ k) ∧ Drawn0 w w')
      case atStart => exact ⟨(0), (0), (by first | rfl | (simp; done) | (simp [*]; done)), (by first | rfl | (simp; done) | (simp [*]; done)), H', ⟨Nat.le_refl _⟩, by repeat (first | exact Drawn0.refl _ | apply Drawn0.step)⟩
      case round =>
        clear H'
        try clear c1
        try clear c2
        try clear c2b0
        try clear c2b1
        try clear p2
        try clear c3
        try clear c3b0
        try clear c3b1
        obtain ⟨x3_1, x4_1, rfl, rfl, HA, HK1, ⟨m1, rfl⟩⟩ := hrel
        cases gk with
        | zero => exact absurd HA.out (by simp [depotref05_Check.l0])
        | succ k1 =>
          have H := HA.out
          clear HA
          simp only [depotref05_Check.l0] at H
          by_cases c4 : x4_1 < (a0.size : Int)
          · rw [if_pos c4] at H
            have c4b0 : decide (x4_1 < (a0.size : Int)) = true := decide_eq_true c4
            clear c4
            have HC5 := Aside0.mk H
            clear H
            go_upto_region 9 with (fail)
            go_cut [26] (fun v26 wc => ∃ (kq : Nat) (x26_4 : Bool), v26 = .bool x26_4 ∧ Aside0 (depotref05_Check.j1 kq a0 x3_1 x4_1 x26_4 = some r) ∧ Aside0 (kq ≤ k1) ∧ Drawn0 w wc)
            case first =>
              have H := HC5.out
              clear HC5
              by_cases c6 : 0 ≤ x4_1
              · rw [if_pos c6] at H
                have c6b0 : decide (0 ≤ x4_1) = true := decide_eq_true c6
                clear c6
                (first | rw [c6b0] | (simp only [i64_w, i32_w]; rw [c6b0]) | skip)
                by_cases c8 : (bt a0 x4_1) = 47
                · rw [if_pos c8] at H
                  have c8b0 : ((bt a0 x4_1) == 47) = true := beq_iff_eq.mpr c8
                  have c8b1 : ((bt a0 x4_1) != 47) = false := bne_eq_false_iff_eq.mpr c8
                  clear c8
                  have H' := Aside0.mk H
                  clear H
                  have p7 : 0 ≤ (x4_1 : Int) := of_decide_eq_true (by first | (with_reducible assumption) | assumption)
                  have q7 : x4_1 < (a0.size : Int) := of_decide_eq_true (by first | (with_reducible assumption) | assumption)
                  have hx7 := bt_at a0 x4_1
                  replace p7 := eq_true p7
                  replace q7 := eq_true q7
                  go_wp2
                  go_meet
                  case rel => exact ⟨_, (true), (by first | rfl | (simp; done) | (simp [*]; done)), H', ⟨by have := HK1.out; first | omega | exact Nat.le_refl _⟩, by repeat (first | exact Drawn0.refl _ | apply Drawn0.step)⟩
                · rw [if_neg c8] at H
                  have c8b0 : ((bt a0 x4_1) == 47) = false := beq_eq_false_iff_ne.mpr c8
                  have c8b1 : ((bt a0 x4_1) != 47) = true := bne_iff_ne.mpr c8
                  have H' := Aside0.mk H
                  clear H
                  have p7 : 0 ≤ (x4_1 : Int) := of_decide_eq_true (by first | (with_reducible assumption) | assumption)
                  have q7 : x4_1 < (a0.size : Int) := of_decide_eq_true (by first | (with_reducible assumption) | assumption)
                  have hx7 := bt_at a0 x4_1
                  replace p7 := eq_true p7
                  replace q7 := eq_true q7
                  have p9 : 0 ≤ (x4_1 : Int) := of_decide_eq_true (by first | (with_reducible assumption) | assumption)
                  have q9 : x4_1 < (a0.size : Int) := of_decide_eq_true (by first | (with_reducible assumption) | assumption)
                  have hx9 := bt_at a0 x4_1
                  replace p9 := eq_true p9
                  replace q9 := eq_true q9
                  go_wp2
                  go_meet
                  case rel => exact ⟨_, (((bt a0 x4_1) == 0)), (by first | rfl | (simp; done) | (simp [*]; done)), H', ⟨by have := HK1.out; first | omega | exact Nat.le_refl _⟩, by repeat (first | exact Drawn0.refl _ | apply Drawn0.step)⟩
              · rw [if_neg c6] at H
                exact absurd H (by simp)
            case rest =>
              clear HC5
              try clear c1
              try clear c2
              try clear c2b0
              try clear c2b1
              try clear p2
              try clear c3
              try clear c3b0
              try clear c3b1
              try clear c4
              try clear c4b0
              try clear c6
              try clear c6b0
              try clear p7
              try clear q7
              try clear hx7
              try clear c8
              try clear c8b0
              try clear c8b1
              try clear p9
              try clear q9
              try clear hx9
              try clear p2
              try clear p7
              try clear p9
              try clear q7
              try clear q9
              obtain ⟨kq, x26_4, rfl, HA, HJ4, ⟨mc4, rfl⟩⟩ := hcut
              cases kq with
              | zero => exact absurd HA.out (by simp [depotref05_Check.j1])
              | succ kj4 =>
                have H := HA.out
                clear HA
                simp only [depotref05_Check.j1] at H
                by_cases c10 : x26_4 = true
                · subst c10
                  have H1 : (some 51) = some r := by rw [if_pos rfl] at H; exact H
                  clear H
                  have H := H1
                  clear H1
                  obtain rfl := Option.some.inj H
                  go_wp2
                  go_ret
                  exact ⟨by first | rfl | (simp; done) | (simp [*]; done), by repeat (first | exact Drawn0.refl _ | apply Drawn0.step)⟩
                · replace c10 := Bool.eq_false_iff.mpr c10
                  subst c10
                  have H1 : (if 0 ≤ x4_1 then (if x4_1 < (a0.size : Int) then (if (bt a0 x4_1) = 46 then (depotref05_Check.l0 kj4 a0 (wrap64 (x3_1 + 1)) (wrap64 (x4_1 + 1))) else (depotref05_Check.l0 kj4 a0 x3_1 (wrap64 (x4_1 + 1)))) else (none)) else (none)) = some r := by rw [if_neg (show ¬ (false = true) by decide)] at H; exact H
                  clear H
                  have H := H1
                  clear H1
                  by_cases c11 : 0 ≤ x4_1
                  · rw [if_pos c11] at H
                    have c11b0 : decide (0 ≤ x4_1) = true := decide_eq_true c11
                    clear c11
                    by_cases c12 : x4_1 < (a0.size : Int)
                    · rw [if_pos c12] at H
                      have c12b0 : decide (x4_1 < (a0.size : Int)) = true := decide_eq_true c12
                      clear c12
                      by_cases c14 : (bt a0 x4_1) = 46
                      · rw [if_pos c14] at H
                        have c14b0 : ((bt a0 x4_1) == 46) = true := beq_iff_eq.mpr c14
                        have c14b1 : ((bt a0 x4_1) != 46) = false := bne_eq_false_iff_eq.mpr c14
                        clear c14
                        have H' := Aside0.mk H
                        clear H
                        have p13 : 0 ≤ (x4_1 : Int) := of_decide_eq_true (by first | (with_reducible assumption) | assumption)
                        have q13 : x4_1 < (a0.size : Int) := of_decide_eq_true (by first | (with_reducible assumption) | assumption)
                        have hx13 := bt_at a0 x4_1
                        replace p13 := eq_true p13
                        replace q13 := eq_true q13
                        go_wp2
                        go_roundg kj4
                        case measure => have := HK1.out; have := HJ4.out; omega
                        case rel => exact ⟨(wrap64 (x3_1 + 1)), (wrap64 (x4_1 + 1)), (by first | rfl | (simp; done) | (simp [*]; done)), (by first | rfl | (simp; done) | (simp [*]; done)), H', ⟨by have := HK1.out; have := HJ4.out; omega⟩, by repeat (first | exact Drawn0.refl _ | apply Drawn0.step)⟩
                      · rw [if_neg c14] at H
                        have c14b0 : ((bt a0 x4_1) == 46) = false := beq_eq_false_iff_ne.mpr c14
                        have c14b1 : ((bt a0 x4_1) != 46) = true := bne_iff_ne.mpr c14
                        have H' := Aside0.mk H
                        clear H
                        have p13 : 0 ≤ (x4_1 : Int) := of_decide_eq_true (by first | (with_reducible assumption) | assumption)
                        have q13 : x4_1 < (a0.size : Int) := of_decide_eq_true (by first | (with_reducible assumption) | assumption)
                        have hx13 := bt_at a0 x4_1
                        replace p13 := eq_true p13
                        replace q13 := eq_true q13
                        go_wp2
                        go_roundg kj4
                        case measure => have := HK1.out; have := HJ4.out; omega
                        case rel => exact ⟨(x3_1), (wrap64 (x4_1 + 1)), (by first | rfl | (simp; done) | (simp [*]; done)), (by first | rfl | (simp; done) | (simp [*]; done)), H', ⟨by have := HK1.out; have := HJ4.out; omega⟩, by repeat (first | exact Drawn0.refl _ | apply Drawn0.step)⟩
                    · rw [if_neg c12] at H
                      exact absurd H (by simp)
                  · rw [if_neg c11] at H
                    exact absurd H (by simp)
          · rw [if_neg c4] at H
            have c4b0 : decide (x4_1 < (a0.size : Int)) = false := decide_eq_false c4
            clear c4
            by_cases c15 : x3_1 = (a0.size : Int)
            · rw [if_pos c15] at H
              have c15b0 : (x3_1 == (a0.size : Int)) = true := beq_iff_eq.mpr c15
              have c15b1 : (x3_1 != (a0.size : Int)) = false := bne_eq_false_iff_eq.mpr c15
              clear c15
              by_cases c16 : x3_1 ≤ 2
              · rw [if_pos c16] at H
                have c16b0 : decide (x3_1 ≤ 2) = true := decide_eq_true c16
                clear c16
                obtain rfl := Option.some.inj H
                go_wp2
                go_ret
                exact ⟨by first | rfl | (simp; done) | (simp [*]; done), by repeat (first | exact Drawn0.refl _ | apply Drawn0.step)⟩
              · rw [if_neg c16] at H
                have c16b0 : decide (x3_1 ≤ 2) = false := decide_eq_false c16
                clear c16
                obtain rfl := Option.some.inj H
                go_wp2
                go_ret
                exact ⟨by first | rfl | (simp; done) | (simp [*]; done), by repeat (first | exact Drawn0.refl _ | apply Drawn0.step)⟩
            · rw [if_neg c15] at H
              have c15b0 : (x3_1 == (a0.size : Int)) = false := beq_eq_false_iff_ne.mpr c15
              have c15b1 : (x3_1 != (a0.size : Int)) = true := bne_iff_ne.mpr c15
              obtain rfl := Option.some.inj H
              go_wp2
              go_ret
              exact ⟨by first | rfl | (simp; done) | (simp [*]; done), by repeat (first | exact Drawn0.refl _ | apply Drawn0.step)⟩

end Go.Proofs.YtabgpdpdgkgmbaaDoor.Q
/- By a program of this session's: a plain Lean function for a Go function, and its contract. -/
namespace Go.Proofs.YtabgpdpdgkgmbaaDoor.Q
open Go.RowKit Go.Proofs.YtabgpdpdgkgmbaaDoorW.PrintWords Go.Proofs.YtabgpdpdgkgmbaaDoorW.PrintLast Go.Proofs.YtabgpdpdgkgmbaaDoorW.PrintMore
attribute [local go_sem] max2_int min2_int max_two min_two max_three min_three max_four min_four Go.Proofs.YtabgpdpdgkgmbaaDoor.Ord.str_leq Go.Proofs.YtabgpdpdgkgmbaaDoor.Ord.str_gtr Go.Proofs.YtabgpdpdgkgmbaaDoor.Ord.str_geq   -- for this text's walks alone
set_option linter.unusedVariables false
set_option linter.unusedSimpArgs false

/-! ### depotref05_Compare: function 21 -/
mutual
def depotref05_Compare.l0 : Nat → ByteArray → ByteArray → Int → Option (Int)
  | 0, _, _, _ => none
  | k + 1, x0, x1, x5 => if x5 < (x0.size : Int) then (depotref05_Compare.j1 k x0 x1 x5 true) else (depotref05_Compare.j1 k x0 x1 x5 (decide (x5 < (x1.size : Int))))
def depotref05_Compare.j1 : Nat → ByteArray → ByteArray → Int → Bool → Option (Int)
  | 0, _, _, _, _ => none
  | k + 1, x0, x1, x5, x15 => if x15 = true then (if x5 = (x0.size : Int) then (some (-1)) else (if x5 = (x1.size : Int) then (depotref05_Compare.j2 k x0 x1 x5 true) else (if 0 ≤ x5 then (if x5 < (x0.size : Int) then (if x5 < (x1.size : Int) then (depotref05_Compare.j2 k x0 x1 x5 (decide ((bt x0 x5) > (bt x1 x5)))) else (none)) else (none)) else (none)))) else (some 0)
def depotref05_Compare.j2 : Nat → ByteArray → ByteArray → Int → Bool → Option (Int)
  | 0, _, _, _, _ => none
  | k + 1, x0, x1, x5, x34 => if x34 = true then (some 1) else (if 0 ≤ x5 then (if x5 < (x0.size : Int) then (if x5 < (x1.size : Int) then (if (bt x0 x5) < (bt x1 x5) then (some (-1)) else (depotref05_Compare.l0 k x0 x1 (wrap64 (x5 + 1)))) else (none)) else (none)) else (none))
end
def depotref05_Compare.f (k : Nat) (a0 : ByteArray) (a1 : ByteArray) : Option (Int) := depotref05_Compare.l0 k a0 a1 0
theorem depotref05_Compare.mono_l : ∀ k, (∀ y0 y1 y2, LeO (depotref05_Compare.l0 k y0 y1 y2) (depotref05_Compare.l0 (k + 1) y0 y1 y2)) ∧ (∀ y0 y1 y2 y3, LeO (depotref05_Compare.j1 k y0 y1 y2 y3) (depotref05_Compare.j1 (k + 1) y0 y1 y2 y3)) ∧ (∀ y0 y1 y2 y3, LeO (depotref05_Compare.j2 k y0 y1 y2 y3) (depotref05_Compare.j2 (k + 1) y0 y1 y2 y3))
  | 0 => ⟨fun _ _ _ r h => by simp [depotref05_Compare.l0] at h, fun _ _ _ _ r h => by simp [depotref05_Compare.j1] at h, fun _ _ _ _ r h => by simp [depotref05_Compare.j2] at h⟩
  | k + 1 => by
    obtain ⟨ih0, ih1, ih2⟩ := depotref05_Compare.mono_l k
    refine ⟨?_, ?_, ?_⟩
    · intro y0 y1 y2
      unfold depotref05_Compare.l0
      repeat' first
      | (with_reducible exact ih0 _ _ _)
      | (with_reducible exact ih1 _ _ _ _)
      | (with_reducible exact ih2 _ _ _ _)
      | (with_reducible exact LeO.refl _)
      | (with_reducible exact LeO.none _)
      | (with_reducible refine LeO.ite ?_ ?_)
      | (with_reducible refine LeO.bind ?_ (fun _ => ?_))
      | exact ih0 _ _ _
      | exact ih1 _ _ _ _
      | exact ih2 _ _ _ _
      | exact LeO.none _
      | refine LeO.ite ?_ ?_
      | refine LeO.bind ?_ (fun _ => ?_)
    · intro y0 y1 y2 y3
      unfold depotref05_Compare.j1
      repeat' first
      | (with_reducible exact ih0 _ _ _)
      | (with_reducible exact ih1 _ _ _ _)
      | (with_reducible exact ih2 _ _ _ _)
      | (with_reducible exact LeO.refl _)
      | (with_reducible exact LeO.none _)
      | (with_reducible refine LeO.ite ?_ ?_)
      | (with_reducible refine LeO.bind ?_ (fun _ => ?_))
      | exact ih0 _ _ _
      | exact ih1 _ _ _ _
      | exact ih2 _ _ _ _
      | exact LeO.none _
      | refine LeO.ite ?_ ?_
      | refine LeO.bind ?_ (fun _ => ?_)
    · intro y0 y1 y2 y3
      unfold depotref05_Compare.j2
      repeat' first
      | (with_reducible exact ih0 _ _ _)
      | (with_reducible exact ih1 _ _ _ _)
      | (with_reducible exact ih2 _ _ _ _)
      | (with_reducible exact LeO.refl _)
      | (with_reducible exact LeO.none _)
      | (with_reducible refine LeO.ite ?_ ?_)
      | (with_reducible refine LeO.bind ?_ (fun _ => ?_))
      | exact ih0 _ _ _
      | exact ih1 _ _ _ _
      | exact ih2 _ _ _ _
      | exact LeO.none _
      | refine LeO.ite ?_ ?_
      | refine LeO.bind ?_ (fun _ => ?_)
theorem depotref05_Compare.mono : ∀ a0 a1 k, LeO (depotref05_Compare.f k a0 a1) (depotref05_Compare.f (k + 1) a0 a1) := by
  intro a0 a1 k
  obtain ⟨ih0, ih1, ih2⟩ := depotref05_Compare.mono_l k
  unfold depotref05_Compare.f
  repeat' first
      | (with_reducible exact ih0 _ _ _)
      | (with_reducible exact ih1 _ _ _ _)
      | (with_reducible exact ih2 _ _ _ _)
      | (with_reducible exact LeO.refl _)
      | (with_reducible exact LeO.none _)
      | (with_reducible refine LeO.ite ?_ ?_)
      | (with_reducible refine LeO.bind ?_ (fun _ => ?_))
      | exact ih0 _ _ _
      | exact ih1 _ _ _ _
      | exact ih2 _ _ _ _
      | exact LeO.none _
      | refine LeO.ite ?_ ?_
      | refine LeO.bind ?_ (fun _ => ?_)
set_option maxHeartbeats 8000000 in
set_option maxRecDepth 100000 in
theorem depotref05_Compare.calls (k : Nat) (a0 : ByteArray) (a1 : ByteArray) (r : Int) (w : World) (h : depotref05_Compare.f k a0 a1 = some r) :
    Calls Tryd.prog 21 #[.string a0, .string a1] w fun e w' => e = .returned (.int .i64 r) ∧ Drawn0 w w' := by
  have H : (depotref05_Compare.l0 k a0 a1 0) = some r := h
  clear h
  have H' := Aside0.mk H
  clear H
  go_enter Tryd.func21, Tryd.ntmps21
  go_wp2
  repeat (go_quiet (fail); try go_wp2)
  go_loopg [5] k (fun kq v5 w' => ∃ (x5_1 : Int), v5 = .int .i64 x5_1 ∧ Aside0 (depotref05_Compare.l0 kq a0 a1 x5_1 = some r) ∧ Aside0 (kq ≤ k) ∧ Drawn0 w w')
  case atStart => exact ⟨(0), (by first | rfl | (simp; done) | (simp [*]; done)), H', ⟨Nat.le_refl _⟩, by repeat (first | exact Drawn0.refl _ | apply Drawn0.step)⟩
  case round =>
    clear H'
    try clear c2
    try clear p2
    obtain ⟨x5_1, rfl, HA, HK1, ⟨m1, rfl⟩⟩ := hrel
    cases gk with
    | zero => exact absurd HA.out (by simp [depotref05_Compare.l0])
    | succ k1 =>
      have H := HA.out
      clear HA
      simp only [depotref05_Compare.l0] at H
      have HC3 := Aside0.mk H
      clear H
      go_upto_region 2 with (fail)
      repeat (go_quiet (fail); go_upto_region 2 with (fail))
      go_cut [15] (fun v15 wc => ∃ (kq : Nat) (x15_2 : Bool), v15 = .bool x15_2 ∧ Aside0 (depotref05_Compare.j1 kq a0 a1 x5_1 x15_2 = some r) ∧ Aside0 (kq ≤ k1) ∧ Drawn0 w wc)
      case first =>
        have H := HC3.out
        clear HC3
        by_cases c4 : x5_1 < (a0.size : Int)
        · rw [if_pos c4] at H
          have c4b0 : decide (x5_1 < (a0.size : Int)) = true := decide_eq_true c4
          clear c4
          (first | rw [c4b0] | (simp only [i64_w, i32_w]; rw [c4b0]) | skip)
          have H' := Aside0.mk H
          clear H
          go_wp2
          repeat (go_quiet (fail); try go_wp2)
          go_meet
          case rel => exact ⟨_, (true), (by first | rfl | (simp; done) | (simp [*]; done)), H', ⟨by have := HK1.out; first | omega | exact Nat.le_refl _⟩, by repeat (first | exact Drawn0.refl _ | apply Drawn0.step)⟩
        · rw [if_neg c4] at H
          have c4b0 : decide (x5_1 < (a0.size : Int)) = false := decide_eq_false c4
          clear c4
          (first | rw [c4b0] | (simp only [i64_w, i32_w]; rw [c4b0]) | skip)
          have H' := Aside0.mk H
          clear H
          go_wp2
          repeat (go_quiet (fail); try go_wp2)
          go_meet
          case rel => exact ⟨_, (decide (x5_1 < (a1.size : Int))), (by first | rfl | (simp; done) | (simp [*]; done)), H', ⟨by have := HK1.out; first | omega | exact Nat.le_refl _⟩, by repeat (first | exact Drawn0.refl _ | apply Drawn0.step)⟩
      case rest =>
        clear HC3
        try clear c2
        try clear p2
        try clear c4
        try clear c4b0
        try clear p2
        obtain ⟨kq, x15_2, rfl, HA, HJ2, ⟨mc2, rfl⟩⟩ := hcut
        cases kq with
        | zero => exact absurd HA.out (by simp [depotref05_Compare.j1])
        | succ kj2 =>
          have H := HA.out
          clear HA
          simp only [depotref05_Compare.j1] at H
          by_cases c5 : x15_2 = true
          · subst c5
            have H1 : (if x5_1 = (a0.size : Int) then (some (-1)) else (if x5_1 = (a1.size : Int) then (depotref05_Compare.j2 kj2 a0 a1 x5_1 true) else (if 0 ≤ x5_1 then (if x5_1 < (a0.size : Int) then (if x5_1 < (a1.size : Int) then (depotref05_Compare.j2 kj2 a0 a1 x5_1 (decide ((bt a0 x5_1) > (bt a1 x5_1)))) else (none)) else (none)) else (none)))) = some r := by rw [if_pos rfl] at H; exact H
            clear H
            have H := H1
            clear H1
            by_cases c6 : x5_1 = (a0.size : Int)
            · rw [if_pos c6] at H
              have c6b0 : (x5_1 == (a0.size : Int)) = true := beq_iff_eq.mpr c6
              have c6b1 : (x5_1 != (a0.size : Int)) = false := bne_eq_false_iff_eq.mpr c6
              clear c6
              obtain rfl := Option.some.inj H
              go_wp2
              repeat (go_quiet (fail); try go_wp2)
              go_ret
              exact ⟨by first | rfl | (simp; done) | (simp [*]; done), by repeat (first | exact Drawn0.refl _ | apply Drawn0.step)⟩
            · rw [if_neg c6] at H
              have c6b0 : (x5_1 == (a0.size : Int)) = false := beq_eq_false_iff_ne.mpr c6
              have c6b1 : (x5_1 != (a0.size : Int)) = true := bne_iff_ne.mpr c6
              have HC7 := Aside0.mk H
              clear H
              go_upto_region 6 with (fail)
              repeat (go_quiet (fail); go_upto_region 6 with (fail))
              go_cut [34] (fun v34 wc => ∃ (kq : Nat) (x34_6 : Bool), v34 = .bool x34_6 ∧ Aside0 (depotref05_Compare.j2 kq a0 a1 x5_1 x34_6 = some r) ∧ Aside0 (kq ≤ kj2) ∧ Drawn0 w wc)
              case first =>
                have H := HC7.out
                clear HC7
                by_cases c8 : x5_1 = (a1.size : Int)
                · rw [if_pos c8] at H
                  have c8b0 : (x5_1 == (a1.size : Int)) = true := beq_iff_eq.mpr c8
                  have c8b1 : (x5_1 != (a1.size : Int)) = false := bne_eq_false_iff_eq.mpr c8
                  clear c8
                  (first | rw [c8b0] | (simp only [i64_w, i32_w]; rw [c8b0]) | skip)
                  have H' := Aside0.mk H
                  clear H
                  go_wp2
                  repeat (go_quiet (fail); try go_wp2)
                  go_meet
                  case rel => exact ⟨_, (true), (by first | rfl | (simp; done) | (simp [*]; done)), H', ⟨by have := HK1.out; have := HJ2.out; first | omega | exact Nat.le_refl _⟩, by repeat (first | exact Drawn0.refl _ | apply Drawn0.step)⟩
                · rw [if_neg c8] at H
                  have c8b0 : (x5_1 == (a1.size : Int)) = false := beq_eq_false_iff_ne.mpr c8
                  have c8b1 : (x5_1 != (a1.size : Int)) = true := bne_iff_ne.mpr c8
                  (first | rw [c8b0] | (simp only [i64_w, i32_w]; rw [c8b0]) | skip)
                  by_cases c9 : 0 ≤ x5_1
                  · rw [if_pos c9] at H
                    have c9b0 : decide (0 ≤ x5_1) = true := decide_eq_true c9
                    clear c9
                    by_cases c10 : x5_1 < (a0.size : Int)
                    · rw [if_pos c10] at H
                      have c10b0 : decide (x5_1 < (a0.size : Int)) = true := decide_eq_true c10
                      clear c10
                      by_cases c12 : x5_1 < (a1.size : Int)
                      · rw [if_pos c12] at H
                        have c12b0 : decide (x5_1 < (a1.size : Int)) = true := decide_eq_true c12
                        clear c12
                        have H' := Aside0.mk H
                        clear H
                        have p11 : 0 ≤ (x5_1 : Int) := of_decide_eq_true (by first | (with_reducible assumption) | assumption)
                        have q11 : x5_1 < (a0.size : Int) := of_decide_eq_true (by first | (with_reducible assumption) | assumption)
                        have hx11 := bt_at a0 x5_1
                        replace p11 := eq_true p11
                        replace q11 := eq_true q11
                        have p13 : 0 ≤ (x5_1 : Int) := of_decide_eq_true (by first | (with_reducible assumption) | assumption)
                        have q13 : x5_1 < (a1.size : Int) := of_decide_eq_true (by first | (with_reducible assumption) | assumption)
                        have hx13 := bt_at a1 x5_1
                        replace p13 := eq_true p13
                        replace q13 := eq_true q13
                        go_wp2
                        repeat (go_quiet (fail); try go_wp2)
                        go_meet
                        case rel => exact ⟨_, (decide ((bt a0 x5_1) > (bt a1 x5_1))), (by first | rfl | (simp; done) | (simp [*]; done)), H', ⟨by have := HK1.out; have := HJ2.out; first | omega | exact Nat.le_refl _⟩, by repeat (first | exact Drawn0.refl _ | apply Drawn0.step)⟩
                      · rw [if_neg c12] at H
                        exact absurd H (by simp)
                    · rw [if_neg c10] at H
                      exact absurd H (by simp)
                  · rw [if_neg c9] at H
                    exact absurd H (by simp)
              case rest =>
                clear HC7
                try clear c1
                try clear p1
                try clear q1
                try clear hx1
                try clear c2
                try clear p2
                try clear c4
                try clear c4b0
                try clear c5
                try clear c6
                try clear c6b0
                try clear c6b1
                try clear c8
                try clear c8b0
                try clear c8b1
                try clear c9
                try clear c9b0
                try clear c10
                try clear c10b0
                try clear p11
                try clear q11
                try clear hx11
                try clear c12
                try clear c12b0
                try clear p13
                try clear q13
                try clear hx13
                try clear p11
                try clear p13
                try clear p2
                try clear q11
                try clear q13
                obtain ⟨kq, x34_6, rfl, HA, HJ6, ⟨mc6, rfl⟩⟩ := hcut
                cases kq with
                | zero => exact absurd HA.out (by simp [depotref05_Compare.j2])
                | succ kj6 =>
                  have H := HA.out
                  clear HA
                  simp only [depotref05_Compare.j2] at H
                  by_cases c14 : x34_6 = true
                  · subst c14
                    have H1 : (some 1) = some r := by rw [if_pos rfl] at H; exact H
                    clear H
                    have H := H1
                    clear H1
                    obtain rfl := Option.some.inj H
                    go_wp2
                    repeat (go_quiet (fail); try go_wp2)
                    go_ret
                    exact ⟨by first | rfl | (simp; done) | (simp [*]; done), by repeat (first | exact Drawn0.refl _ | apply Drawn0.step)⟩
                  · replace c14 := Bool.eq_false_iff.mpr c14
                    subst c14
                    have H1 : (if 0 ≤ x5_1 then (if x5_1 < (a0.size : Int) then (if x5_1 < (a1.size : Int) then (if (bt a0 x5_1) < (bt a1 x5_1) then (some (-1)) else (depotref05_Compare.l0 kj6 a0 a1 (wrap64 (x5_1 + 1)))) else (none)) else (none)) else (none)) = some r := by rw [if_neg (show ¬ (false = true) by decide)] at H; exact H
                    clear H
                    have H := H1
                    clear H1
                    by_cases c15 : 0 ≤ x5_1
                    · rw [if_pos c15] at H
                      have c15b0 : decide (0 ≤ x5_1) = true := decide_eq_true c15
                      clear c15
                      by_cases c16 : x5_1 < (a0.size : Int)
                      · rw [if_pos c16] at H
                        have c16b0 : decide (x5_1 < (a0.size : Int)) = true := decide_eq_true c16
                        clear c16
                        by_cases c18 : x5_1 < (a1.size : Int)
                        · rw [if_pos c18] at H
                          have c18b0 : decide (x5_1 < (a1.size : Int)) = true := decide_eq_true c18
                          clear c18
                          by_cases c20 : (bt a0 x5_1) < (bt a1 x5_1)
                          · rw [if_pos c20] at H
                            have c20b0 : decide ((bt a0 x5_1) < (bt a1 x5_1)) = true := decide_eq_true c20
                            clear c20
                            obtain rfl := Option.some.inj H
                            have p17 : 0 ≤ (x5_1 : Int) := of_decide_eq_true (by first | (with_reducible assumption) | assumption)
                            have q17 : x5_1 < (a0.size : Int) := of_decide_eq_true (by first | (with_reducible assumption) | assumption)
                            have hx17 := bt_at a0 x5_1
                            replace p17 := eq_true p17
                            replace q17 := eq_true q17
                            have p19 : 0 ≤ (x5_1 : Int) := of_decide_eq_true (by first | (with_reducible assumption) | assumption)
                            have q19 : x5_1 < (a1.size : Int) := of_decide_eq_true (by first | (with_reducible assumption) | assumption)
                            have hx19 := bt_at a1 x5_1
                            replace p19 := eq_true p19
                            replace q19 := eq_true q19
                            go_wp2
                            repeat (go_quiet (fail); try go_wp2)
                            go_ret
                            exact ⟨by first | rfl | (simp; done) | (simp [*]; done), by repeat (first | exact Drawn0.refl _ | apply Drawn0.step)⟩
                          · rw [if_neg c20] at H
                            have c20b0 : decide ((bt a0 x5_1) < (bt a1 x5_1)) = false := decide_eq_false c20
                            clear c20
                            have H' := Aside0.mk H
                            clear H
                            have p17 : 0 ≤ (x5_1 : Int) := of_decide_eq_true (by first | (with_reducible assumption) | assumption)
                            have q17 : x5_1 < (a0.size : Int) := of_decide_eq_true (by first | (with_reducible assumption) | assumption)
                            have hx17 := bt_at a0 x5_1
                            replace p17 := eq_true p17
                            replace q17 := eq_true q17
                            have p19 : 0 ≤ (x5_1 : Int) := of_decide_eq_true (by first | (with_reducible assumption) | assumption)
                            have q19 : x5_1 < (a1.size : Int) := of_decide_eq_true (by first | (with_reducible assumption) | assumption)
                            have hx19 := bt_at a1 x5_1
                            replace p19 := eq_true p19
                            replace q19 := eq_true q19
                            go_wp2
                            repeat (go_quiet (fail); try go_wp2)
                            go_roundg kj6
                            case measure => have := HK1.out; have := HJ2.out; have := HJ6.out; omega
                            case rel => exact ⟨(wrap64 (x5_1 + 1)), (by first | rfl | (simp; done) | (simp [*]; done)), H', ⟨by have := HK1.out; have := HJ2.out; have := HJ6.out; omega⟩, by repeat (first | exact Drawn0.refl _ | apply Drawn0.step)⟩
                        · rw [if_neg c18] at H
                          exact absurd H (by simp)
                      · rw [if_neg c16] at H
                        exact absurd H (by simp)
                    · rw [if_neg c15] at H
                      exact absurd H (by simp)
          · replace c5 := Bool.eq_false_iff.mpr c5
            subst c5
            have H1 : (some 0) = some r := by rw [if_neg (show ¬ (false = true) by decide)] at H; exact H
            clear H
            have H := H1
            clear H1
            obtain rfl := Option.some.inj H
            go_wp2
            repeat (go_quiet (fail); try go_wp2)
            go_ret
            exact ⟨by first | rfl | (simp; done) | (simp [*]; done), by repeat (first | exact Drawn0.refl _ | apply Drawn0.step)⟩

end Go.Proofs.YtabgpdpdgkgmbaaDoor.Q
/- What the program's Check and the document's Check and Compare answer, in plain words. -/
set_option linter.unusedVariables false
set_option linter.unusedSimpArgs false
namespace Go.Proofs.YtabgpdpdgkgmbaaDoor.NamePure
open Go.RowKit Go.Proofs.YtabgpdpdgkgmbaaDoor.Q Go.Proofs.YtabgpdpdgkgmbaaDoorW.PrintWords Go.Proofs.YtabgpdpdgkgmbaaDoorW.PrintLast Go.Proofs.YtabgpdpdgkgmbaaDoor.Bytes Go.Proofs.YtabgpdpdgkgmbaaDoor.Ord

/-- The error's number of a name. -/
def chk (l : List UInt8) : Int := if l = [] then 50 else if 255 < l.length then 6 else if 47 ∈ l ∨ 0 ∈ l then 51 else if l = [46] ∨ l = [46, 46] then 52 else 0

theorem name_check (a : ByteArray) : name_Check.f a = some (chk (bs a)) := by
  unfold name_Check.f chk
  rw [toList_bs, size_bs]
  by_cases h1 : bs a = []
  · rw [if_pos h1, if_pos h1]
  · rw [if_neg h1, if_neg h1]
    by_cases h2 : 255 < (bs a).length
    · rw [if_pos (by omega), if_pos h2]
    · rw [if_neg (by omega), if_neg h2]
      have e : strings_ContainsAny.f a (⟨#[47, 0]⟩ : ByteArray) = some (decide (47 ∈ bs a ∨ 0 ∈ bs a)) := by
        unfold strings_ContainsAny.f
        rw [if_pos ⟨rfl, by rw [size_bs]; omega⟩]
      rw [e]
      simp only [Option.bind_some]
      by_cases h3 : 47 ∈ bs a ∨ 0 ∈ bs a
      · rw [if_pos (decide_eq_true h3), if_pos h3]
      · rw [if_neg (by simpa using h3), if_neg h3]
        by_cases h4 : bs a = [46]
        · rw [if_pos h4, if_pos (.inl h4)]
        · rw [if_neg h4]
          by_cases h5 : bs a = [46, 46]
          · rw [if_pos h5, if_pos (.inr h5)]
          · rw [if_neg h5, if_neg (by simp [h4, h5])]

theorem getD_of (l : List UInt8) (i : Nat) (h : i < l.length) : l.getD i 0 = l[i] := by rw [List.getD_eq_getElem?_getD, List.getElem?_eq_getElem h]; rfl
theorem bt_lt (s : ByteArray) (i : Nat) (h : i < (bs s).length) : bt s (i : Int) = (((bs s)[i]).toNat : Int) := by rw [bt_bs, Int.toNat_natCast, getD_of _ _ h]
theorem byte47 (c : UInt8) : ((c.toNat : Int) = 47) ↔ c = 47 := by rw [← byte_eq_iff]; rfl
theorem byte46 (c : UInt8) : ((c.toNat : Int) = 46) ↔ c = 46 := by rw [← byte_eq_iff]; rfl
theorem byte0 (c : UInt8) : ((c.toNat : Int) = 0) ↔ c = 0 := by rw [← byte_eq_iff]; rfl
theorem wr (i : Nat) (h : i < 9223372036854775807) : wrap64 ((i : Int) + 1) = ((i + 1 : Nat) : Int) := by rw [w64 (by omega) (by omega)]; omega

theorem ref_l0 (a : ByteArray) (hs : (bs a).length ≤ 140737488351232) (d : Nat) : ∀ (i dots k : Nat), (bs a).length - i = d → i ≤ (bs a).length → dots ≤ i → 2 * d < k →
    depotref05_Check.l0 k a (dots : Int) (i : Int) = some (if 47 ∈ (bs a).drop i ∨ 0 ∈ (bs a).drop i then 51 else if dots + ((bs a).drop i).count 46 = (bs a).length ∧ (bs a).length ≤ 2 then 52 else 0) := by
  induction d with
  | zero =>
    intro i dots k hd hi hdt hk
    obtain ⟨k, rfl⟩ : ∃ m, k = m + 1 := ⟨k - 1, by omega⟩
    simp only [depotref05_Check.l0, size_bs]
    rw [if_neg (by omega), List.drop_of_length_le (by omega)]
    rw [if_neg (show ¬ (47 ∈ ([] : List UInt8) ∨ 0 ∈ ([] : List UInt8)) by simp)]
    by_cases h : (dots : Int) = ((bs a).length : Int)
    · rw [if_pos h]
      by_cases h2 : (dots : Int) ≤ 2
      · rw [if_pos h2, if_pos (by rw [List.count_nil]; omega)]
      · rw [if_neg h2, if_neg (by rw [List.count_nil]; omega)]
    · rw [if_neg h, if_neg (by rw [List.count_nil]; omega)]
  | succ d ih =>
    intro i dots k hd hi hdt hk
    obtain ⟨k, rfl⟩ : ∃ m, k = m + 2 := ⟨k - 2, by omega⟩
    have hlt : i < (bs a).length := by omega
    have ed : (bs a).drop i = (bs a)[i] :: (bs a).drop (i + 1) := List.drop_eq_getElem_cons hlt
    simp only [depotref05_Check.l0, depotref05_Check.j1, size_bs]
    rw [if_pos (by omega), if_pos (by omega), bt_lt a i hlt]
    by_cases h1 : (bs a)[i] = 47
    · rw [if_pos ((byte47 _).2 h1), if_pos trivial, if_pos (by rw [ed, h1]; simp)]
    · rw [if_neg (fun h => h1 ((byte47 _).1 h))]
      by_cases h2 : (bs a)[i] = 0
      · rw [if_pos (by rw [beq_iff_eq, byte0]; exact h2), if_pos (by rw [ed, h2]; simp)]
      · rw [if_neg (by rw [beq_iff_eq, byte0]; exact h2), if_pos (by omega), if_pos (by omega)]
        have em : (47 ∈ (bs a).drop i ∨ 0 ∈ (bs a).drop i) ↔ (47 ∈ (bs a).drop (i + 1) ∨ 0 ∈ (bs a).drop (i + 1)) := by
          rw [ed, List.mem_cons, List.mem_cons]
          simp [Ne.symm h1, Ne.symm h2]
        by_cases h3 : (bs a)[i] = 46
        · have := ih (i + 1) (dots + 1) k (by omega) (by omega) (by omega) (by omega)
          rw [if_pos ((byte46 _).2 h3), wr dots (by omega), wr i (by omega), this, ed, h3]
          simp only [List.mem_cons, List.count_cons_self]
          have e1 : dots + 1 + ((bs a).drop (i + 1)).count 46 = dots + (((bs a).drop (i + 1)).count 46 + 1) := by omega
          rw [e1]
          congr 1
          simp
        · have := ih (i + 1) dots k (by omega) (by omega) (by omega) (by omega)
          rw [if_neg (fun h => h3 ((byte46 _).1 h)), wr i (by omega), this]
          have ec : ((bs a).drop i).count 46 = ((bs a).drop (i + 1)).count 46 := by
            rw [ed, List.count_cons_of_ne h3]
          rw [ec]
          congr 1
          by_cases hm : 47 ∈ (bs a).drop (i + 1) ∨ 0 ∈ (bs a).drop (i + 1)
          · rw [if_pos hm, if_pos (em.2 hm)]
          · rw [if_neg hm, if_neg (fun h => hm (em.1 h))]

theorem ref_check (a : ByteArray) (hs : (bs a).length ≤ 140737488351232) (k : Nat) (hk : 2 * (bs a).length < k) : depotref05_Check.f k a = some (chk (bs a)) := by
  unfold depotref05_Check.f chk
  rw [size_bs]
  by_cases h1 : bs a = []
  · rw [if_pos (by rw [h1]; rfl), if_pos h1]
  · have hl : 0 < (bs a).length := List.length_pos_iff.2 h1
    rw [if_neg (by omega), if_neg h1]
    by_cases h2 : 255 < (bs a).length
    · rw [if_pos (by omega), if_pos h2]
    · rw [if_neg (by omega), if_neg h2]
      have := ref_l0 a hs (bs a).length 0 0 k (by omega) (by omega) (by omega) hk
      rw [List.drop_zero] at this
      have this2 : depotref05_Check.l0 k a 0 0 = _ := this
      rw [this2]
      congr 1
      by_cases h3 : 47 ∈ bs a ∨ 0 ∈ bs a
      · rw [if_pos h3, if_pos h3]
      · rw [if_neg h3, if_neg h3]
        have e : (0 + (bs a).count 46 = (bs a).length ∧ (bs a).length ≤ 2) ↔ (bs a = [46] ∨ bs a = [46, 46]) := by
          rw [Nat.zero_add, List.count_eq_length]
          generalize bs a = l at hl h1
          match l with
          | [] => simp at hl
          | [x] => simp [eq_comm]
          | [x, y] =>
            simp only [List.mem_cons, List.not_mem_nil, or_false, List.length_cons, List.length_nil, List.cons.injEq, and_true, and_false, false_or, reduceCtorEq]
            exact ⟨fun h => ⟨(h.1 x (.inl rfl)).symm, (h.1 y (.inr rfl)).symm⟩, fun h => ⟨fun b hb => by rcases hb with rfl | rfl <;> simp [h], by omega⟩⟩
          | x :: y :: z :: t => simp
        by_cases h4 : bs a = [46] ∨ bs a = [46, 46]
        · rw [if_pos h4, if_pos (e.2 h4)]
        · rw [if_neg h4, if_neg (fun h => h4 (e.1 h))]


theorem cmp_l0 (a b : ByteArray) (ha : (bs a).length ≤ 140737488351232) (hb : (bs b).length ≤ 140737488351232) (d : Nat) : ∀ (i k : Nat), (bs a).length - i = d → i ≤ (bs a).length → i ≤ (bs b).length → 3 * d + 2 ≤ k →
    depotref05_Compare.l0 k a b (i : Int) = some (Lib.compareBytes ((bs a).drop i) ((bs b).drop i)) := by
  induction d with
  | zero =>
    intro i k hd hi hib hk
    obtain ⟨k, rfl⟩ : ∃ m, k = m + 2 := ⟨k - 2, by omega⟩
    have ei : i = (bs a).length := by omega
    simp only [depotref05_Compare.l0, depotref05_Compare.j1, size_bs]
    rw [if_neg (by omega), List.drop_of_length_le (l := bs a) (by omega)]
    by_cases h : i < (bs b).length
    · rw [if_pos (decide_eq_true (by omega)), if_pos (by omega), List.drop_eq_getElem_cons h]
      rfl
    · rw [if_neg (by rw [decide_eq_true_iff]; omega), List.drop_of_length_le (by omega)]
      rfl
  | succ d ih =>
    intro i k hd hi hib hk
    obtain ⟨k, rfl⟩ : ∃ m, k = m + 3 := ⟨k - 3, by omega⟩
    have hlt : i < (bs a).length := by omega
    simp only [depotref05_Compare.l0, depotref05_Compare.j1, depotref05_Compare.j2, size_bs]
    rw [if_pos (by omega), if_pos trivial, if_neg (by omega), List.drop_eq_getElem_cons hlt]
    by_cases h : i = (bs b).length
    · rw [if_pos (by omega), if_pos trivial, List.drop_of_length_le (l := bs b) (by omega)]
      rfl
    · have hltb : i < (bs b).length := by omega
      rw [if_neg (by omega), if_pos (by omega), if_pos (by omega), if_pos (by omega), bt_lt a i hlt, bt_lt b i hltb, List.drop_eq_getElem_cons hltb]
      simp only [Lib.compareBytes, UInt8.lt_iff_toNat_lt]
      by_cases h1 : (bs b)[i].toNat < (bs a)[i].toNat
      · rw [if_pos (decide_eq_true (by omega)), if_neg (by omega), if_pos h1]
      · rw [if_neg (by rw [decide_eq_true_iff]; omega), if_pos (by omega), if_pos (by omega), if_pos (by omega)]
        by_cases h2 : (bs a)[i].toNat < (bs b)[i].toNat
        · rw [if_pos (by omega), if_pos h2]
        · rw [if_neg (by omega), if_neg h2, if_neg h1, wr i (by omega)]
          exact ih (i + 1) k (by omega) (by omega) (by omega) (by omega)
theorem ref_compare (a b : ByteArray) (ha : (bs a).length ≤ 140737488351232) (hb : (bs b).length ≤ 140737488351232) (k : Nat) (hk : 3 * (bs a).length + 2 ≤ k) : depotref05_Compare.f k a b = some (Lib.compareBytes (bs a) (bs b)) := by
  have := cmp_l0 a b ha hb (bs a).length 0 k (by omega) (by omega) (by omega) hk
  rw [List.drop_zero, List.drop_zero] at this
  exact this
end Go.Proofs.YtabgpdpdgkgmbaaDoor.NamePure
