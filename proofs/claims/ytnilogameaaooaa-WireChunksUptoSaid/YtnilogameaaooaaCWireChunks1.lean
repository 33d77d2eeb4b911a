/- Texts of this claim, put together: Bytes, Ord, WordsMore, Q0, Q1, Kit, ExtInt, Reader, ReaderNext, ReaderTake, ReaderByte, FeedPure, FeedStep, FeedWf, FeedWalk, ReaderClose, ReaderNew, Tail. -/
import Derived.Test.YtnilogameaaooaaWWords
import Derived.Test.YtnilogameaaooaaWLast
import Derived.Lib.SmallJoins
import Derived.Lib.Bytealg
import Derived.Test.YtnilogameaaooaaWMore
import Derived.Lib.AppendStr
import Derived.Test.YtnilogameaaooaaProg
import Derived.Below
import Derived.Deep.Draws
import Derived.Deep.AppendLies
import Derived.Maps.AppendAt
import Derived.OwnWalk
import Derived.Laws.BytesArg
import Derived.Laws.MakeOwn
import Derived.Laws.OwnMore
import Derived.Deep.OwnRows
import Derived.Tactics
import Derived.Lib.ConvBytes
import Derived.Laws.Slices
import Derived.WalkKit
import Derived.KernelRfl
import Derived.RowKit3
import Derived.Deep.LoopGhost
import Derived.Deep.QuietTactic
import Derived.BigQuiet
import Derived.WideLaws
import Derived.Deep.DeepCutAuto
import Derived.Deep.CutBlock
import Derived.Deep.RegionHeld3
import Derived.Laws.Rows
import Derived.ArgAppend
import Derived.Laws.IdiomCopy
import Derived.OrdersHeld
import Derived.Laws.BitsLemmas
import Derived.RowKit
import Derived.Test.YtnilogameaaooaaWTab
import Derived.Test.YtnilogameaaooaaWFour
import Derived.Test.YtnilogameaaooaaWQPut
import Derived.Test.YtnilogameaaooaaWApart
import Derived.Test.YtnilogameaaooaaWArr
import Derived.Test.YtnilogameaaooaaWZeros
import Derived.Test.YtnilogameaaooaaWFoot
import Derived.Test.YtnilogameaaooaaWKept
import Derived.Test.YtnilogameaaooaaWShare
import Derived.Test.YtnilogameaaooaaWN
import Derived.Test.YtnilogameaaooaaWFootNe
import Derived.Test.YtnilogameaaooaaWAt
import Derived.Test.YtnilogameaaooaaWEqStruct
import Derived.Test.YtnilogameaaooaaWRepsOne
import Derived.Test.YtnilogameaaooaaWInv
import Derived.Test.YtnilogameaaooaaWInvWords
import Derived.Test.YtnilogameaaooaaWGuard
import Derived.Test.YtnilogameaaooaaWNEv
import Derived.WalkMore
import Derived.StillTailTactics
import Derived.IntWalk
import Derived.Laws.Bits64b
/- Plain lemmas on strings as lists of bytes; no program in sight. -/
set_option linter.unusedVariables false
set_option linter.unusedSimpArgs false
namespace Go.Proofs.Ytnilogameaaooaa.Bytes
open Go.RowKit Go.Proofs.YtnilogameaaooaaW.PrintWords

/-- The bytes of a string. -/
def bs (s : ByteArray) : List UInt8 := s.data.toList
theorem toList_bs (s : ByteArray) : s.toList = bs s := ByteArray.toList_eq s
theorem size_bs (s : ByteArray) : s.size = (bs s).length := by
  simp only [bs, Array.length_toList]
  rfl
theorem bs_append (a b : ByteArray) : bs (a ++ b) = bs a ++ bs b := by
  obtain ⟨a⟩ := a
  obtain ⟨b⟩ := b
  rw [bs, ByteArray.mk_append_mk]
  simp [bs]
theorem bs_extract (s : ByteArray) (i j : Nat) : bs (s.extract i j) = ((bs s).drop i).take (j - i) := by
  simp [bs, ByteArray.data_extract, Array.toList_extract, List.extract]
theorem bs_mk (l : List UInt8) : bs ⟨l.toArray⟩ = l := by simp [bs]
theorem bs_inj {a b : ByteArray} (h : bs a = bs b) : a = b := by
  obtain ⟨a⟩ := a
  obtain ⟨b⟩ := b
  simp only [bs] at h
  congr 1
  exact Array.toList_inj.1 h
theorem bs_eq_iff (a b : ByteArray) : bs a = bs b ↔ a = b := ⟨bs_inj, fun h => by rw [h]⟩
/-- Byte i, as a number; 0 outside. -/
theorem bt_bs (s : ByteArray) (i : Int) : bt s i = (((bs s).getD i.toNat 0).toNat : Int) := by
  unfold bt
  split
  · rename_i h
    have h' : i.toNat < (bs s).length := by rw [← size_bs]; exact h
    rw [List.getD_eq_getElem?_getD, List.getElem?_eq_getElem h']
    simp only [Option.getD_some]
    rfl
  · rename_i h
    have h' : (bs s).length ≤ i.toNat := by rw [← size_bs]; omega
    rw [List.getD_eq_getElem?_getD, List.getElem?_eq_none h']
    rfl
theorem w64 {x : Int} (h0 : -9223372036854775808 ≤ x) (h1 : x ≤ 9223372036854775807) : wrap64 x = x := by
  unfold wrap64
  omega
theorem byte_eq_iff (x y : UInt8) : ((x.toNat : Int) = (y.toNat : Int)) ↔ x = y := by
  constructor
  · intro h
    exact UInt8.toNat_inj.1 (by omega)
  · intro h
    rw [h]
end Go.Proofs.Ytnilogameaaooaa.Bytes
/- Strings' order: '<=' and '>' in the words of '<' alone, for the walks of this seat. -/
set_option linter.unusedVariables false
set_option linter.unusedSimpArgs false
namespace Go.Proofs.Ytnilogameaaooaa.Ord
open Go

theorem less_total : ∀ (a b : List UInt8), (Op.bytesLess a b || a == b) = !Op.bytesLess b a
  | [], [] => by simp [Op.bytesLess]
  | [], _ :: _ => by simp [Op.bytesLess]
  | _ :: _, [] => by simp [Op.bytesLess]
  | x :: a, y :: b => by
    have ih := less_total a b
    simp only [Op.bytesLess]
    by_cases h : x = y
    · subst h
      have : ¬ x < x := by rw [UInt8.lt_iff_toNat_lt]; omega
      simp only [this, decide_false, Bool.false_or, beq_self_eq_true, Bool.true_and]
      rw [← ih]
      congr 1
      rw [Bool.eq_iff_iff]
      simp
    · have hn : ¬ x.toNat = y.toNat := fun e => h (UInt8.toNat_inj.1 e)
      have e1 : (x == y) = false := beq_eq_false_iff_ne.2 h
      have e2 : (y == x) = false := beq_eq_false_iff_ne.2 (fun e => h e.symm)
      have e3 : (x :: a == y :: b) = false := by rw [beq_eq_false_iff_ne]; intro e; injection e with e _; exact h e
      rw [e1, e2, e3]
      simp only [Bool.false_and, Bool.or_false]
      rw [Bool.eq_iff_iff]
      simp only [decide_eq_true_eq, Bool.not_eq_true', decide_eq_false_iff_not, UInt8.lt_iff_toNat_lt]
      omega
theorem str_leq (t : TypeId) (a b : ByteArray) : binOp .leq t (.string a) (.string b) = pure (.bool (!Op.bytesLess b.toList a.toList)) := by
  simp [binOp, Op.stringOp, ← less_total]
theorem str_gtr (t : TypeId) (a b : ByteArray) : binOp .gtr t (.string a) (.string b) = pure (.bool (Op.bytesLess b.toList a.toList)) := by
  have := less_total a.toList b.toList
  simp [binOp, Op.stringOp] 
  cases h1 : Op.bytesLess a.toList b.toList <;> cases h2 : (a.toList == b.toList) <;> cases h3 : Op.bytesLess b.toList a.toList <;> simp_all
theorem str_geq (t : TypeId) (a b : ByteArray) : binOp .geq t (.string a) (.string b) = pure (.bool !(Op.bytesLess a.toList b.toList)) := by simp [binOp, Op.stringOp]
/-- The order of three answers. -/
theorem compare_less : ∀ (a b : List UInt8), (Op.bytesLess a b = true ↔ Lib.compareBytes a b = -1)
  | [], [] => by simp [Op.bytesLess, Lib.compareBytes]
  | [], _ :: _ => by simp [Op.bytesLess, Lib.compareBytes]
  | _ :: _, [] => by simp [Op.bytesLess, Lib.compareBytes]
  | x :: a, y :: b => by
    have ih := compare_less a b
    simp only [Op.bytesLess, Lib.compareBytes, Bool.or_eq_true, Bool.and_eq_true, decide_eq_true_eq, beq_iff_eq]
    by_cases h : x < y
    · simp [h]
    · by_cases h2 : y < x
      · have : ¬ x = y := by intro e; subst e; exact h h2
        simp [h, h2, this]
      · have e : x = y := by
          rw [UInt8.lt_iff_toNat_lt] at h h2
          exact UInt8.toNat_inj.1 (by omega)
        subst e
        simp [h, ih]
theorem compare_eq : ∀ (a b : List UInt8), (Lib.compareBytes a b = 0 ↔ a = b)
  | [], [] => by simp [Lib.compareBytes]
  | [], _ :: _ => by simp [Lib.compareBytes]
  | _ :: _, [] => by simp [Lib.compareBytes]
  | x :: a, y :: b => by
    have ih := compare_eq a b
    simp only [Lib.compareBytes]
    by_cases h : x < y
    · have : ¬ x = y := by intro e; subst e; rw [UInt8.lt_iff_toNat_lt] at h; omega
      simp [h, this]
    · by_cases h2 : y < x
      · have : ¬ x = y := by intro e; subst e; exact h h2
        simp [h, h2, this]
      · have e : x = y := by
          rw [UInt8.lt_iff_toNat_lt] at h h2
          exact UInt8.toNat_inj.1 (by omega)
        subst e
        simp [h, ih]
theorem compare_range : ∀ (a b : List UInt8), Lib.compareBytes a b = -1 ∨ Lib.compareBytes a b = 0 ∨ Lib.compareBytes a b = 1
  | [], [] => by simp [Lib.compareBytes]
  | [], _ :: _ => by simp [Lib.compareBytes]
  | _ :: _, [] => by simp [Lib.compareBytes]
  | x :: a, y :: b => by
    have ih := compare_range a b
    simp only [Lib.compareBytes]
    split
    · simp
    · split
      · simp
      · exact ih
end Go.Proofs.Ytnilogameaaooaa.Ord
/- Words beside the print's: a slice made with no element and a capacity of its own; a string appended beside other rows. -/
set_option linter.unusedVariables false
set_option linter.unusedSimpArgs false
namespace Go.Proofs.YtnilogameaaooaaW.PrintWords
open Go.RowKit
namespace Kd
section
variable {P : Program} {ops : Array Oper} {rest : List Oper} {o : Oper} {a : Act} {Q : Exit → Act → World → Prop}
variable {α : Type}
/-- make([]T, 0, n): no element, room for n. -/
theorem R_make0 (d : Kd α) {w0 W : World} (base e : Nat) (hgd : o.guard = none) {N : Tmp} (hd : o.dst = some N) (t : TypeId) (x y : Operand) (ho : o.op = .makeSlice t x y) (n : Int) (hx : a.eval x = .int .i64 0) (hy : a.eval y = .int .i64 n)
    (ht : P.underlying t = some (.slice e)) (z : Value) (bytes : Nat) (hinfo : (P.info? e).map (fun i => (i.zero, i.size, i.bytes)) = some (some z, d.sz, bytes)) (hz : z.cells.size = d.sz) (hs0 : 0 < d.sz) (hb0 : 0 < bytes)
    (z0 : α) {ok okp : Nat → Prop} (hzero : d.M W base okp z0 z.cells.toList) (hok : ∀ k, okp k → ok k) (hfresh : ok W.heap.size) (h0 : 0 ≤ n) (hl : n.toNat * bytes ≤ 281474976710656) (HB : Below base w0 W) (hbase : base ≤ W.heap.size)
    (h : ∀ v1 w1, d.R e w1 base ok v1 ([] : List α) → Below base w0 w1 → W.grownBy w1 none → (∃ b, v1.ownBlock = some b ∧ W.heap.size ≤ b) → wpList P ops Q rest (a.put o.dst v1) w1) : wpList P ops Q (o :: rest) a W := by
  obtain ⟨m, rfl⟩ := Int.eq_ofNat_of_zero_le h0
  simp only [Int.toNat_natCast] at hl
  obtain ⟨i0, hi, hzz⟩ := Option.map_eq_some_iff.1 hinfo
  simp only [Prod.mk.injEq] at hzz
  obtain ⟨hz0, hz1, hz2⟩ := hzz
  have hm : m ≤ 281474976710656 := Nat.le_trans (Nat.le_mul_of_pos_right _ hb0) hl
  have hr := run_make (P := P) W t e i0 z ht hi hz0 .i64 .i64 0 (m : Int) (by omega) (by omega)
    (by
      have h3 : ((i0.bytes * m : Nat) : Int) ≤ 281474976710656 := by rw [hz2, Nat.mul_comm]; omega
      rwa [Int.natCast_mul] at h3) (by omega)
  simp only [Int.toNat_natCast] at hr
  have hrun : (execOp a.eval o).run P W = .ok (.value (.slice (some ⟨W.heap.size, 0, none⟩) 0 m)) (W.alloc (.cells (madeCells z.cells (m * i0.size)) e)) := by
    simp [execOp, ho, hx, hy, hr]
  refine event_run hgd hrun (h _ _ ⟨fun k hk => ?_, [], ?_, Reps.none _ _⟩ (HB.alloc hbase _) (World.grownBy_alloc W _ none) ⟨W.heap.size, by simp [Value.ownBlock], Nat.le_refl _⟩)
  · have : W.heap.size = k := by simpa [Value.ownBlock] using hk
    subst this
    exact hfresh
  · refine ⟨by simp, .inr ⟨W.heap.size, m, madeCells z.cells (m * i0.size), rfl, hbase, ?_, Nat.zero_le _, by unfold maxLen; omega, ?_, by simp⟩⟩
    · show (W.heap.push _)[W.heap.size]? = _
      simp
    · rw [hz1, size_madeCells]
/-- append(b, s...), s a string: with word on where the row lies. -/
theorem run_append_str_at {w : World} (base : Nat) (t u ty e : TypeId) (i : TypeInfo) (ht : P.underlying t = some (.slice e)) (hu : P.underlying u = some .string) (hi : P.info? e = some i) (hz : i.zero = some (.int .u8 0))
    (hsize : i.size = 1) (hby : i.bytes = 1) (v : Value) (n : Nat) (xs : List Value) (hown : w.ownsRow base e 1 v n xs) (s : ByteArray) (h63 : n + s.size ≤ maxLen) (hbytes : n + s.size ≤ 140737488355328) (hbase : base ≤ w.heap.size) :
    ∃ v' w', (Builtin.append_ #[t, u] ty #[v, .string s]).run P w = .ok v' w' ∧ w'.ownsRow base e 1 v' (n + s.size) (xs ++ Lib.strCells s) ∧ w.grownBy w' v.ownBlock ∧ (v'.ownBlock = v.ownBlock ∨ ∃ b, v'.ownBlock = some b ∧ w.heap.size ≤ b) := by
  rcases hown.2 with ⟨rfl, rfl⟩ | ⟨g, cap, cur, rfl, hbg, hg, hnc, hcm, hcs, htk⟩
  · obtain rfl : xs = [] := List.eq_nil_of_length_eq_zero (by simpa using hown.1)
    obtain ⟨v', w', hr, ho, hgr, _⟩ := Lib.run_append_own_string (P := P) w w.heap.size t u ty e i ht hu hi hz hsize hby (.slice none 0 0) 0 [] (World.ownsRow_nil w _ e 1) s h63 hbytes (Nat.le_refl _)
    refine ⟨v', w', hr, ⟨ho.1, ?_⟩, hgr, ?_⟩
    · rcases ho.2 with h | ⟨g, cap, cur, h1, h2, h3⟩
      · exact .inl h
      · exact .inr ⟨g, cap, cur, h1, Nat.le_trans hbase h2, h3⟩
    · rcases ho.2 with h | ⟨g, cap, cur, h1, h2, h3⟩
      · left; rw [h.1]
      · right; exact ⟨g, by rw [h1]; rfl, h2⟩
  · obtain ⟨v', w', hr, ho, hgr, _⟩ := Lib.run_append_own_string (P := P) w base t u ty e i ht hu hi hz hsize hby _ n xs hown s h63 hbytes hbase
    refine ⟨v', w', hr, ho, hgr, ?_⟩
    by_cases hroom : n + s.size ≤ cap
    · have h2 := Lib.run_append_room_string (P := P) w t u ty e i ht hu hi hsize g n cap cur hg s hroom (by omega)
      rw [hr] at h2
      injection h2 with h2 _
      left; rw [h2]; rfl
    · have h2 := Lib.run_append_grow_string (P := P) w t u ty e i (.int .u8 0) ht hu hi hz ⟨g, 0, none⟩ n cap xs (by rw [hsize]; exact hown.1) (fun j q hj => hown.cells (g := g) rfl j q hj) s (by omega) (by simp only [maxLen] at h63; omega) (growslice_fits (by omega) (by rw [hby]; omega))
      rw [hr] at h2
      injection h2 with h2 _
      right; exact ⟨w.heap.size, by rw [h2]; rfl, Nat.le_refl _⟩
theorem R_append_str {w0 W : World} (base : Nat) (hgd : o.guard = none) (s x : Operand) (t u e : TypeId)
    (ho : o.op = .call { callee := .builtin .append, args := #[s, x], argTypes := #[t, u] })
    (ht : P.underlying t = some (.slice e)) (hu : P.underlying u = some .string) (hinfo : (P.info? e).map (fun i => (i.zero, i.size, i.bytes)) = some (some (.int .u8 0), 1, 1))
    (v : Value) (xs : List Int) (y : ByteArray) (ok : Nat → Prop) (hs : a.eval s = v) (hx : a.eval x = .string y) (hfresh : ∀ k, W.heap.size ≤ k → ok k)
    (HO : (Kd.int .u8).R e W base ok v xs) (HB : Below base w0 W) (hbase : base ≤ W.heap.size) (hl : xs.length + y.size ≤ 140737488355328)
    (h : ∀ v1 w1, (Kd.int .u8).R e w1 base ok v1 (xs ++ bytesOf y) → Below base w0 w1 → W.grownBy w1 v.ownBlock → (v1.ownBlock = v.ownBlock ∨ ∃ b, v1.ownBlock = some b ∧ W.heap.size ≤ b) → wpList P ops Q rest (a.put o.dst v1) w1) :
    wpList P ops Q (o :: rest) a W := by
  obtain ⟨i0, hi, hzz⟩ := Option.map_eq_some_iff.1 hinfo
  simp only [Prod.mk.injEq] at hzz
  obtain ⟨hz0, hz1, hz2⟩ := hzz
  have hown := Kd.own_of_R HO
  refine wpList_plain hgd fun K hK => ?_
  obtain ⟨v', w', hr, h2, h3, h4⟩ := run_append_str_at (P := P) (w := W) base t u o.type e i0 ht hu hi hz0 hz1 hz2 v xs.length _ hown y (by simp only [maxLen]; omega) hl hbase
  have hl2 : (xs ++ bytesOf y).length = xs.length + y.size := by rw [List.length_append, bytesOf_length]
  have hc : encs (Value.int .u8) (xs ++ bytesOf y) = encs (Value.int .u8) xs ++ Lib.strCells y := by
    simp [encs, bytesOf, Lib.strCells]
  have hR : (Kd.int .u8).R e w' base ok v' (xs ++ bytesOf y) := by
    refine Kd.R_of_own (h1 := fun _ => rfl) (by rw [hl2, hc]; exact h2) ?_
    intro k hk
    rcases h4 with h4 | ⟨b, h4, h5⟩
    · exact HO.1 k (by rw [← h4]; exact hk)
    · rw [h4] at hk
      injection hk with hk
      exact hk ▸ hfresh b h5
  unfold Oper.wp execOp
  simp only [ho, resolve, invoke, builtin, Sem.run_bind, Sem.run_pure, Result.andThen_ok, List.map_toArray, List.map_cons, List.map_nil, hs, hx, hr]
  exact hK _ _ (h v' w' hR (HB.grown h3 hbase (own_base hown)) h3 h4)
end
end Kd
end Go.Proofs.YtnilogameaaooaaW.PrintWords
/- By a program of this session's: a plain Lean function for a Go function, and its contract. -/
namespace Go.Proofs.Ytnilogameaaooaa.Q
open Go.RowKit Go.Proofs.YtnilogameaaooaaW.PrintWords Go.Proofs.YtnilogameaaooaaW.PrintLast Go.Proofs.YtnilogameaaooaaW.PrintMore
attribute [local go_sem] max2_int min2_int max_two min_two max_three min_three max_four min_four Go.Proofs.Ytnilogameaaooaa.Ord.str_leq Go.Proofs.Ytnilogameaaooaa.Ord.str_gtr Go.Proofs.Ytnilogameaaooaa.Ord.str_geq   -- for this text's walks alone
set_option linter.unusedVariables false
set_option linter.unusedSimpArgs false



def errW : Option Int → Value
  | none => .nilIface
  | some c => .iface 0 (.int .i64 c)
theorem errW_none : errW none = .nilIface := rfl
theorem errW_some (c : Int) : errW (some c) = .iface 0 (.int .i64 c) := rfl

theorem info5 : (Try.prog.info? 5).map (fun i => (i.zero, i.size, i.bytes)) = some (some (.int .u8 0), 1, 1) := by kernel_rfl
theorem info55 : (Try.prog.info? 55).map (fun i => (i.zero, i.size, i.bytes)) = some (some (.agg #[(.bool false), (.int .u64 0), (.string ⟨#[]⟩)]), 3, 32) := by kernel_rfl
theorem info78 : (Try.prog.info? 78).map (fun i => (i.zero, i.size, i.bytes)) = some (some (.agg #[(.bool false), (.int .u64 0), (.string ⟨#[]⟩)]), 3, 32) := by kernel_rfl
-- the values' own types
/-! #### struct type 55 -/
structure S55 where
  f0 : Bool
  f1 : Int
  f2 : ByteArray
def z55 : S55 := ⟨false, (0 : Int), (⟨#[]⟩ : ByteArray)⟩
def k55 : Kd S55 := Kd.iso (Kd.pair Kd.bool (Kd.pair (Kd.int .u64) Kd.string)) (fun x : S55 => (x.f0, x.f1, x.f2))
theorem k55_open {w : World} {x : S55} {cs : List Value} (h : k55.K w x cs) : cs = [.bool x.f0, .int .u64 x.f1, .string x.f2] := by
  obtain ⟨_, _, rfl, rfl, ⟨_, _, rfl, rfl, rfl⟩⟩ := h
  exact rfl
theorem k55_openM {w : World} {base : Nat} {ok : Nat → Prop} {x : S55} {cs : List Value} (h : k55.M w base ok x cs) : cs = [.bool x.f0, .int .u64 x.f1, .string x.f2] := by
  obtain ⟨_, _, rfl, rfl, ⟨_, _, rfl, rfl, rfl⟩⟩ := h
  exact rfl
theorem k55_mk (w : World) (x : S55)  : k55.K w x [.bool x.f0, .int .u64 x.f1, .string x.f2] := ⟨[.bool x.f0], [.int .u64 x.f1, .string x.f2], rfl, rfl, ⟨[.int .u64 x.f1], [.string x.f2], rfl, rfl, rfl⟩⟩
theorem k55_mkM (w : World) (base : Nat) (ok : Nat → Prop) (x : S55)  : k55.M w base ok x [.bool x.f0, .int .u64 x.f1, .string x.f2] := ⟨[.bool x.f0], [.int .u64 x.f1, .string x.f2], rfl, rfl, ⟨[.int .u64 x.f1], [.string x.f2], rfl, rfl, rfl⟩⟩
def rd_T55 (xs : List S55) (i : Int) : S55 := xs.getD i.toNat z55
theorem at_T55 {w : World} {A : Option Addr} {n : Nat} {xs : List S55} (h : Kd.C k55 w A n xs) (i : Int) (h0 : 0 ≤ i) (h1 : i < n) : ∃ ad , A = some ad ∧ w.cell? (ad.add (i.toNat * 3)) = some (.bool (rd_T55 xs i).f0) ∧ w.cell? ⟨(ad.add (i.toNat * 3)).block, (ad.add (i.toNat * 3)).off + 1, none⟩ = some (.int .u64 (rd_T55 xs i).f1) ∧ w.cell? ⟨(ad.add (i.toNat * 3)).block, (ad.add (i.toNat * 3)).off + 2, none⟩ = some (.string (rd_T55 xs i).f2) := by
  obtain ⟨ad, c, e, _, hK, hc0⟩ := Kd.C_get h z55 i h0 h1
  have hc : ∀ j u, c[j]? = some u → w.cell? (ad.add (i.toNat * 3 + j)) = some u := hc0
  obtain rfl := k55_open hK
  exact ⟨ad, e, hc 0 _ rfl, by rw [← add_field _ _ 1 (by omega)]; exact hc 1 _ rfl, by rw [← add_field _ _ 2 (by omega)]; exact hc 2 _ rfl⟩

def rd_L4 (xs : List (List S55)) (i : Int) : (List S55) := xs.getD i.toNat ([] : List S55)
theorem at_L4 {w : World} {A : Option Addr} {n : Nat} {xs : List (List S55)} (h : Kd.C (Kd.slice 55 k55) w A n xs) (i : Int) (h0 : 0 ≤ i) (h1 : i < n) : ∃ ad A0 c0, A = some ad ∧ w.cell? (ad.add i.toNat) = some (.slice A0 (rd_L4 xs i).length c0) ∧ (rd_L4 xs i).length ≤ c0 ∧ k55.C w A0 (rd_L4 xs i).length (rd_L4 xs i) := by
  obtain ⟨ad, c, e, _, hK, hc0⟩ := Kd.C_get h ([] : List S55) i h0 h1
  have hc : ∀ j u, c[j]? = some u → w.cell? (ad.add (i.toNat * 1 + j)) = some u := hc0
  obtain ⟨A0, c0, rfl, l0, g0⟩ := hK
  exact ⟨ad, A0, c0, e, by have hq := hc 0 _ rfl; rwa [Nat.mul_one, Nat.add_zero] at hq, l0, g0⟩

def rd_L6 (xs : List (List Int)) (i : Int) : (List Int) := xs.getD i.toNat ([] : List Int)
theorem at_L6 {w : World} {A : Option Addr} {n : Nat} {xs : List (List Int)} (h : Kd.C (Kd.slice 3 (Kd.int .i64)) w A n xs) (i : Int) (h0 : 0 ≤ i) (h1 : i < n) : ∃ ad A0 c0, A = some ad ∧ w.cell? (ad.add i.toNat) = some (.slice A0 (rd_L6 xs i).length c0) ∧ (rd_L6 xs i).length ≤ c0 ∧ (Kd.int .i64).C w A0 (rd_L6 xs i).length (rd_L6 xs i) := by
  obtain ⟨ad, c, e, _, hK, hc0⟩ := Kd.C_get h ([] : List Int) i h0 h1
  have hc : ∀ j u, c[j]? = some u → w.cell? (ad.add (i.toNat * 1 + j)) = some u := hc0
  obtain ⟨A0, c0, rfl, l0, g0⟩ := hK
  exact ⟨ad, A0, c0, e, by have hq := hc 0 _ rfl; rwa [Nat.mul_one, Nat.add_zero] at hq, l0, g0⟩

/-! #### struct type 60 -/
structure S60 where
  f0 : ByteArray
  f1 : ByteArray
  f2 : Int
  f3 : (List Int)
def z60 : S60 := ⟨(⟨#[]⟩ : ByteArray), (⟨#[]⟩ : ByteArray), (0 : Int), ([] : List Int)⟩
def k60 : Kd S60 := Kd.iso (Kd.pair Kd.string (Kd.pair Kd.string (Kd.pair (Kd.int .i64) (Kd.slice 3 (Kd.int .i64))))) (fun x : S60 => (x.f0, x.f1, x.f2, x.f3))
theorem k60_open {w : World} {x : S60} {cs : List Value} (h : k60.K w x cs) : ∃ A3 c3, cs = [.string x.f0, .string x.f1, .int .i64 x.f2, .slice A3 x.f3.length c3] ∧ x.f3.length ≤ c3 ∧ (Kd.int .i64).C w A3 x.f3.length x.f3 := by
  obtain ⟨_, _, rfl, rfl, ⟨_, _, rfl, rfl, ⟨_, _, rfl, rfl, ⟨A3, c3, rfl, l3, g3⟩⟩⟩⟩ := h
  exact ⟨A3, c3, rfl, l3, g3⟩
theorem k60_openM {w : World} {base : Nat} {ok : Nat → Prop} {x : S60} {cs : List Value} (h : k60.M w base ok x cs) : ∃ v3, cs = [.string x.f0, .string x.f1, .int .i64 x.f2, v3] ∧ (Kd.int .i64).R 3 w base ok v3 x.f3 := by
  obtain ⟨_, _, rfl, rfl, ⟨_, _, rfl, rfl, ⟨_, _, rfl, rfl, ⟨v3, rfl, g3⟩⟩⟩⟩ := h
  exact ⟨v3, rfl, g3⟩
theorem k60_mk (w : World) (x : S60) {A3 : Option Addr} {c3 : Nat} (l3 : x.f3.length ≤ c3) (g3 : (Kd.int .i64).C w A3 x.f3.length x.f3) : k60.K w x [.string x.f0, .string x.f1, .int .i64 x.f2, .slice A3 x.f3.length c3] := ⟨[.string x.f0], [.string x.f1, .int .i64 x.f2, .slice A3 x.f3.length c3], rfl, rfl, ⟨[.string x.f1], [.int .i64 x.f2, .slice A3 x.f3.length c3], rfl, rfl, ⟨[.int .i64 x.f2], [.slice A3 x.f3.length c3], rfl, rfl, ⟨A3, c3, rfl, l3, g3⟩⟩⟩⟩
theorem k60_mkM (w : World) (base : Nat) (ok : Nat → Prop) (x : S60) {v3 : Value} (g3 : (Kd.int .i64).R 3 w base ok v3 x.f3) : k60.M w base ok x [.string x.f0, .string x.f1, .int .i64 x.f2, v3] := ⟨[.string x.f0], [.string x.f1, .int .i64 x.f2, v3], rfl, rfl, ⟨[.string x.f1], [.int .i64 x.f2, v3], rfl, rfl, ⟨[.int .i64 x.f2], [v3], rfl, rfl, ⟨v3, rfl, g3⟩⟩⟩⟩
def rd_T60 (xs : List S60) (i : Int) : S60 := xs.getD i.toNat z60
theorem at_T60 {w : World} {A : Option Addr} {n : Nat} {xs : List S60} (h : Kd.C k60 w A n xs) (i : Int) (h0 : 0 ≤ i) (h1 : i < n) : ∃ ad A3 c3, A = some ad ∧ w.cell? (ad.add (i.toNat * 4)) = some (.string (rd_T60 xs i).f0) ∧ w.cell? ⟨(ad.add (i.toNat * 4)).block, (ad.add (i.toNat * 4)).off + 1, none⟩ = some (.string (rd_T60 xs i).f1) ∧ w.cell? ⟨(ad.add (i.toNat * 4)).block, (ad.add (i.toNat * 4)).off + 2, none⟩ = some (.int .i64 (rd_T60 xs i).f2) ∧ w.cell? ⟨(ad.add (i.toNat * 4)).block, (ad.add (i.toNat * 4)).off + 3, none⟩ = some (.slice A3 (rd_T60 xs i).f3.length c3) ∧ (rd_T60 xs i).f3.length ≤ c3 ∧ (Kd.int .i64).C w A3 (rd_T60 xs i).f3.length (rd_T60 xs i).f3 := by
  obtain ⟨ad, c, e, _, hK, hc0⟩ := Kd.C_get h z60 i h0 h1
  have hc : ∀ j u, c[j]? = some u → w.cell? (ad.add (i.toNat * 4 + j)) = some u := hc0
  obtain ⟨A3, c3, rfl, l3, g3⟩ := k60_open hK
  exact ⟨ad, A3, c3, e, hc 0 _ rfl, by rw [← add_field _ _ 1 (by omega)]; exact hc 1 _ rfl, by rw [← add_field _ _ 2 (by omega)]; exact hc 2 _ rfl, by rw [← add_field _ _ 3 (by omega)]; exact hc 3 _ rfl, l3, g3⟩

/-! #### struct type 66 -/
structure S66 where
  f0 : Bool
  f1 : ByteArray
def z66 : S66 := ⟨false, (⟨#[]⟩ : ByteArray)⟩
def k66 : Kd S66 := Kd.iso (Kd.pair Kd.bool Kd.string) (fun x : S66 => (x.f0, x.f1))
theorem k66_open {w : World} {x : S66} {cs : List Value} (h : k66.K w x cs) : cs = [.bool x.f0, .string x.f1] := by
  obtain ⟨_, _, rfl, rfl, rfl⟩ := h
  exact rfl
theorem k66_openM {w : World} {base : Nat} {ok : Nat → Prop} {x : S66} {cs : List Value} (h : k66.M w base ok x cs) : cs = [.bool x.f0, .string x.f1] := by
  obtain ⟨_, _, rfl, rfl, rfl⟩ := h
  exact rfl
theorem k66_mk (w : World) (x : S66)  : k66.K w x [.bool x.f0, .string x.f1] := ⟨[.bool x.f0], [.string x.f1], rfl, rfl, rfl⟩
theorem k66_mkM (w : World) (base : Nat) (ok : Nat → Prop) (x : S66)  : k66.M w base ok x [.bool x.f0, .string x.f1] := ⟨[.bool x.f0], [.string x.f1], rfl, rfl, rfl⟩
def rd_T66 (xs : List S66) (i : Int) : S66 := xs.getD i.toNat z66
theorem at_T66 {w : World} {A : Option Addr} {n : Nat} {xs : List S66} (h : Kd.C k66 w A n xs) (i : Int) (h0 : 0 ≤ i) (h1 : i < n) : ∃ ad , A = some ad ∧ w.cell? (ad.add (i.toNat * 2)) = some (.bool (rd_T66 xs i).f0) ∧ w.cell? ⟨(ad.add (i.toNat * 2)).block, (ad.add (i.toNat * 2)).off + 1, none⟩ = some (.string (rd_T66 xs i).f1) := by
  obtain ⟨ad, c, e, _, hK, hc0⟩ := Kd.C_get h z66 i h0 h1
  have hc : ∀ j u, c[j]? = some u → w.cell? (ad.add (i.toNat * 2 + j)) = some u := hc0
  obtain rfl := k66_open hK
  exact ⟨ad, e, hc 0 _ rfl, by rw [← add_field _ _ 1 (by omega)]; exact hc 1 _ rfl⟩

def rd_L9 (xs : List (List S66)) (i : Int) : (List S66) := xs.getD i.toNat ([] : List S66)
theorem at_L9 {w : World} {A : Option Addr} {n : Nat} {xs : List (List S66)} (h : Kd.C (Kd.slice 66 k66) w A n xs) (i : Int) (h0 : 0 ≤ i) (h1 : i < n) : ∃ ad A0 c0, A = some ad ∧ w.cell? (ad.add i.toNat) = some (.slice A0 (rd_L9 xs i).length c0) ∧ (rd_L9 xs i).length ≤ c0 ∧ k66.C w A0 (rd_L9 xs i).length (rd_L9 xs i) := by
  obtain ⟨ad, c, e, _, hK, hc0⟩ := Kd.C_get h ([] : List S66) i h0 h1
  have hc : ∀ j u, c[j]? = some u → w.cell? (ad.add (i.toNat * 1 + j)) = some u := hc0
  obtain ⟨A0, c0, rfl, l0, g0⟩ := hK
  exact ⟨ad, A0, c0, e, by have hq := hc 0 _ rfl; rwa [Nat.mul_one, Nat.add_zero] at hq, l0, g0⟩

/-! #### struct type 31 -/
structure S31 where
  f0 : Int
  f1 : Int
def z31 : S31 := ⟨(0 : Int), (0 : Int)⟩
def k31 : Kd S31 := Kd.iso (Kd.pair (Kd.int .i64) (Kd.int .i64)) (fun x : S31 => (x.f0, x.f1))
theorem k31_open {w : World} {x : S31} {cs : List Value} (h : k31.K w x cs) : cs = [.int .i64 x.f0, .int .i64 x.f1] := by
  obtain ⟨_, _, rfl, rfl, rfl⟩ := h
  exact rfl
theorem k31_openM {w : World} {base : Nat} {ok : Nat → Prop} {x : S31} {cs : List Value} (h : k31.M w base ok x cs) : cs = [.int .i64 x.f0, .int .i64 x.f1] := by
  obtain ⟨_, _, rfl, rfl, rfl⟩ := h
  exact rfl
theorem k31_mk (w : World) (x : S31)  : k31.K w x [.int .i64 x.f0, .int .i64 x.f1] := ⟨[.int .i64 x.f0], [.int .i64 x.f1], rfl, rfl, rfl⟩
theorem k31_mkM (w : World) (base : Nat) (ok : Nat → Prop) (x : S31)  : k31.M w base ok x [.int .i64 x.f0, .int .i64 x.f1] := ⟨[.int .i64 x.f0], [.int .i64 x.f1], rfl, rfl, rfl⟩
def rd_T31 (xs : List S31) (i : Int) : S31 := xs.getD i.toNat z31
theorem at_T31 {w : World} {A : Option Addr} {n : Nat} {xs : List S31} (h : Kd.C k31 w A n xs) (i : Int) (h0 : 0 ≤ i) (h1 : i < n) : ∃ ad , A = some ad ∧ w.cell? (ad.add (i.toNat * 2)) = some (.int .i64 (rd_T31 xs i).f0) ∧ w.cell? ⟨(ad.add (i.toNat * 2)).block, (ad.add (i.toNat * 2)).off + 1, none⟩ = some (.int .i64 (rd_T31 xs i).f1) := by
  obtain ⟨ad, c, e, _, hK, hc0⟩ := Kd.C_get h z31 i h0 h1
  have hc : ∀ j u, c[j]? = some u → w.cell? (ad.add (i.toNat * 2 + j)) = some u := hc0
  obtain rfl := k31_open hK
  exact ⟨ad, e, hc 0 _ rfl, by rw [← add_field _ _ 1 (by omega)]; exact hc 1 _ rfl⟩

/-! #### struct type 78 -/
structure S78 where
  f0 : Bool
  f1 : Int
  f2 : ByteArray
def z78 : S78 := ⟨false, (0 : Int), (⟨#[]⟩ : ByteArray)⟩
def k78 : Kd S78 := Kd.iso (Kd.pair Kd.bool (Kd.pair (Kd.int .u64) Kd.string)) (fun x : S78 => (x.f0, x.f1, x.f2))
theorem k78_open {w : World} {x : S78} {cs : List Value} (h : k78.K w x cs) : cs = [.bool x.f0, .int .u64 x.f1, .string x.f2] := by
  obtain ⟨_, _, rfl, rfl, ⟨_, _, rfl, rfl, rfl⟩⟩ := h
  exact rfl
theorem k78_openM {w : World} {base : Nat} {ok : Nat → Prop} {x : S78} {cs : List Value} (h : k78.M w base ok x cs) : cs = [.bool x.f0, .int .u64 x.f1, .string x.f2] := by
  obtain ⟨_, _, rfl, rfl, ⟨_, _, rfl, rfl, rfl⟩⟩ := h
  exact rfl
theorem k78_mk (w : World) (x : S78)  : k78.K w x [.bool x.f0, .int .u64 x.f1, .string x.f2] := ⟨[.bool x.f0], [.int .u64 x.f1, .string x.f2], rfl, rfl, ⟨[.int .u64 x.f1], [.string x.f2], rfl, rfl, rfl⟩⟩
theorem k78_mkM (w : World) (base : Nat) (ok : Nat → Prop) (x : S78)  : k78.M w base ok x [.bool x.f0, .int .u64 x.f1, .string x.f2] := ⟨[.bool x.f0], [.int .u64 x.f1, .string x.f2], rfl, rfl, ⟨[.int .u64 x.f1], [.string x.f2], rfl, rfl, rfl⟩⟩
def rd_T78 (xs : List S78) (i : Int) : S78 := xs.getD i.toNat z78
theorem at_T78 {w : World} {A : Option Addr} {n : Nat} {xs : List S78} (h : Kd.C k78 w A n xs) (i : Int) (h0 : 0 ≤ i) (h1 : i < n) : ∃ ad , A = some ad ∧ w.cell? (ad.add (i.toNat * 3)) = some (.bool (rd_T78 xs i).f0) ∧ w.cell? ⟨(ad.add (i.toNat * 3)).block, (ad.add (i.toNat * 3)).off + 1, none⟩ = some (.int .u64 (rd_T78 xs i).f1) ∧ w.cell? ⟨(ad.add (i.toNat * 3)).block, (ad.add (i.toNat * 3)).off + 2, none⟩ = some (.string (rd_T78 xs i).f2) := by
  obtain ⟨ad, c, e, _, hK, hc0⟩ := Kd.C_get h z78 i h0 h1
  have hc : ∀ j u, c[j]? = some u → w.cell? (ad.add (i.toNat * 3 + j)) = some u := hc0
  obtain rfl := k78_open hK
  exact ⟨ad, e, hc 0 _ rfl, by rw [← add_field _ _ 1 (by omega)]; exact hc 1 _ rfl, by rw [← add_field _ _ 2 (by omega)]; exact hc 2 _ rfl⟩

end Go.Proofs.Ytnilogameaaooaa.Q
/- By a program of this session's: a plain Lean function for a Go function, and its contract. -/
namespace Go.Proofs.Ytnilogameaaooaa.Q
open Go.RowKit Go.Proofs.YtnilogameaaooaaW.PrintWords Go.Proofs.YtnilogameaaooaaW.PrintLast Go.Proofs.YtnilogameaaooaaW.PrintMore
attribute [local go_sem] max2_int min2_int max_two min_two max_three min_three max_four min_four Go.Proofs.Ytnilogameaaooaa.Ord.str_leq Go.Proofs.Ytnilogameaaooaa.Ord.str_gtr Go.Proofs.Ytnilogameaaooaa.Ord.str_geq   -- for this text's walks alone
set_option linter.unusedVariables false
set_option linter.unusedSimpArgs false

theorem eqA31 (d : Nat) (w : World) (x0 y0 : Int) (x1 y1 : Int) :
    (Op.equalIn (d + 2) 31 (.agg #[.int .i64 x0, .int .i64 x1]) (.agg #[.int .i64 y0, .int .i64 y1])).run Try.prog w = .ok (x0 == y0 && (x1 == y1)) w := by
  refine eqA_of Try.underlying31 (by kernel_rfl) ?_
  refine eqf_cons (by rfl) (by go_simp; rfl) (by go_simp; rfl) (by go_simp) ?_
  exact eqf_last (by rfl) (by go_simp; rfl) (by go_simp; rfl) (by go_simp)
end Go.Proofs.Ytnilogameaaooaa.Q
/- Small helpers of the walks: quiet calls behind draws. -/
set_option linter.unusedVariables false
set_option linter.unusedSimpArgs false
namespace Go.Proofs.Ytnilogameaaooaa.Kit
open Go Go.RowKit
variable {P : Program} {f : FuncId} {args : Array Value} {w : World} {a n : Nat} {v : Value}
theorem quiet_more (h : Calls P f args (w.drewN (a + n)) fun e w' => e = .returned v ∧ ∃ m, w' = (w.drewN (a + n)).drewN m) :
    Calls P f args (w.drewN (a + n)) fun e w'' => e = .returned v ∧ ∃ m, w'' = w.drewN (a + m) :=
  h.mono fun _ _ ⟨he, m, hm⟩ => ⟨he, n + m, by rw [hm, World.drewN_drewN, Nat.add_assoc]⟩
theorem quiet_more_same (h : Calls P f args (w.drewN (a + n)) fun e w' => e = .returned v ∧ w' = w.drewN (a + n)) :
    Calls P f args (w.drewN (a + n)) fun e w'' => e = .returned v ∧ ∃ m, w'' = w.drewN (a + m) :=
  h.mono fun _ _ ⟨he, hm⟩ => ⟨he, n, hm⟩
end Go.Proofs.Ytnilogameaaooaa.Kit
/- wire.Int, walked by hand: eight bytes into an array, and the array's text. -/
namespace Go.Proofs.Ytnilogameaaooaa.Q
open Go.RowKit Go.Proofs.YtnilogameaaooaaW.PrintWords Go.Proofs.YtnilogameaaooaaW.PrintLast Go.Proofs.YtnilogameaaooaaW.PrintMore Go.Proofs.Ytnilogameaaooaa.Bytes
set_option linter.unusedVariables false
set_option linter.unusedSimpArgs false

/-- The eight bytes of a number, the lowest first. -/
def le8 (n : Int) : List Int := (List.range 8).map fun j => n / 2 ^ (8 * j) % 256
def wire_Int.f (a0 : Int) : Option (ByteArray) := some (strOfNums (le8 a0))
/-- The array behind i rounds. -/
def row8 (n : Int) (i : Nat) : List Int := (List.range 8).map fun j => if j < i then n / 2 ^ (8 * j) % 256 else 0
theorem row8_len (n : Int) (i : Nat) : (row8 n i).length = 8 := by simp [row8]
theorem row8_set (n : Int) (i : Nat) (hi : i < 8) : (row8 n i).set i (n / 2 ^ (8 * i) % 256) = row8 n (i + 1) := by
  apply List.ext_getElem
  · simp [row8]
  · intro j h1 h2
    rw [List.getElem_set]
    simp only [row8, List.getElem_map, List.getElem_range]
    by_cases e : i = j
    · subst e
      rw [if_pos rfl, if_pos (Nat.lt_succ_self _)]
    · rw [if_neg e]
      by_cases q : j < i
      · rw [if_pos q, if_pos (by omega)]
      · rw [if_neg q, if_neg (by omega)]
theorem row8_all (n : Int) : row8 n 8 = le8 n := by
  apply List.ext_getElem
  · simp [row8, le8]
  · intro j h1 h2
    simp only [row8, le8, List.getElem_map, List.getElem_range]
    rw [if_pos (by simpa [row8] using h1)]
/-- The world with the array. -/
def w8 (w : World) (e : TypeId) (n : Int) (i : Nat) : World := w.alloc (.cells (nums .u8 (row8 n i)).toArray e)
theorem w8_heap (w : World) (e : TypeId) (n : Int) (i : Nat) : (w8 w e n i).heap[w.heap.size]? = some (.cells (nums .u8 (row8 n i)).toArray e (0, 0)) := heap_alloc_new w _
theorem w8_size (n : Int) (i : Nat) : (nums .u8 (row8 n i)).length = 8 := by simp [nums, row8_len]
theorem w8_set (w : World) (e : TypeId) (n : Int) (i : Nat) (hi : i < 8) : (w8 w e n i).setCell ⟨w.heap.size, i, none⟩ (.int .u8 (n / 2 ^ (8 * i) % 256)) = w8 w e n (i + 1) := by
  have h1 : (nums .u8 (row8 n (i + 1))).toArray = ((nums .u8 (row8 n i)).toArray).setIfInBounds i (.int .u8 (n / 2 ^ (8 * i) % 256)) := by
    rw [← row8_set n i hi]
    apply Array.ext'
    simp [nums, List.map_set]
  unfold w8
  rw [h1]
  have h2 : ∀ c : Array Value, w.alloc (.cells c e) = { w with heap := w.heap.push (.cells c e) } := fun _ => rfl
  rw [h2, h2]
  simp only [World.setCell]
  congr 1
  apply Array.ext'
  simp only [Array.toList_modify, Array.toList_push]
  have h3 : ∀ (l : List Obj) (x : Obj) (f : Obj → Obj), (l ++ [x]).modify l.length f = l ++ [f x] := by
    intro l x f
    induction l with
    | nil => rfl
    | cons a l ih => simp [List.modify_succ_cons, ih]
  have h4 := h3 w.heap.toList (.cells (nums .u8 (row8 n i)).toArray e)
  simp only [Array.length_toList] at h4
  rw [h4]
  rfl
theorem w8_cell (w : World) (e : TypeId) (n : Int) (i : Nat) (hi : i < 8) : ∃ v, (w8 w e n i).cell? ⟨w.heap.size, i, none⟩ = some v := by
  have := cell_of_row (w8 w e n i) w.heap.size i _ e (0, 0) (w8_heap w e n i)
  rw [this]
  exact ⟨_, Array.getElem?_eq_getElem (by simp [w8_size, hi])⟩
theorem w8_frozen (w : World) (e : TypeId) (n : Int) (i j : Nat) : (w8 w e n i).frozen? ⟨w.heap.size, j, none⟩ = false := by
  simp [World.frozen?, w8_heap w e n i]
theorem w8_reads (w : World) (e : TypeId) (n : Int) : ReadsInt (w8 w e n 8) .u8 (some ⟨w.heap.size, 0, none⟩) 8 (le8 n) := by
  refine ⟨by simp [le8], by omega, fun _ => ⟨_, rfl, fun j hj => ?_⟩⟩
  have hadd : (⟨w.heap.size, 0, none⟩ : Addr).add j = ⟨w.heap.size, j, none⟩ := by unfold Addr.add; split <;> simp_all
  rw [hadd, cell_of_row (w8 w e n 8) w.heap.size j _ e (0, 0) (w8_heap w e n 8), row8_all]
  have hl : j < (le8 n).length := by simpa [le8] using hj
  simp [nums, List.getD_eq_getElem?_getD, List.getElem?_eq_getElem hl]
set_option maxHeartbeats 8000000 in
set_option maxRecDepth 100000 in
theorem wire_Int.calls (a0 : Int) (r : ByteArray) (w : World) (h : wire_Int.f a0 = some r) :
    Calls Try.prog 13 #[.int .u64 a0] w fun e w' => e = .returned (.string r) ∧ Below w.heap.size w w' := by
  unfold wire_Int.f at h
  have HR := Aside0.mk (Option.some.inj h)
  clear h
  have HW := Aside0.mk (show (w.alloc (.cells #[Value.int IntKind.u8 0, Value.int IntKind.u8 0, Value.int IntKind.u8 0, Value.int IntKind.u8 0, Value.int IntKind.u8 0, Value.int IntKind.u8 0, Value.int IntKind.u8 0, Value.int IntKind.u8 0] 74)) = w8 w 74 a0 0 from rfl)
  go_enter Try.func13, Try.ntmps13
  go_wp2
  rw [HW.out]
  go_loopg [5, 4] 8 (fun g v5 v4 wx => ∃ i : Nat, i + g = 8 ∧ v5 = .int .i64 (i : Int) ∧ wx = w8 w 74 a0 i)
  case atStart => exact ⟨0, by omega, rfl, rfl⟩
  case round =>
    obtain ⟨i, hig, rfl, rfl⟩ := hrel
    cases gk with
    | zero =>
      obtain rfl : i = 8 := by omega
      have hcv := string_of_reads (P := Try.prog) (w := w8 w 74 a0 8) (c := 8) Try.underlying48 Try.underlying5 Try.underlying9 (w8_reads w 74 a0)
      go_wp2
      go_ret
      exact ⟨by rw [← HR.out]; rfl, below_alloc (Below.refl _ _) _⟩
    | succ g =>
      have hi : i < 8 := by omega
      obtain ⟨v0, hcell⟩ := w8_cell w 74 a0 i hi
      have hfro := w8_frozen w 74 a0 i i
      have hset := w8_set w 74 a0 i hi
      go_wp2
      go_roundg g
      case measure => omega
      case rel => exact ⟨i + 1, by omega, by go_num, rfl⟩
end Go.Proofs.Ytnilogameaaooaa.Q
/- wire.Reader, walked by hand: its twelve cells, and what each method does to them. -/
namespace Go.Proofs.Ytnilogameaaooaa.Rdr
open Go.RowKit Go.Proofs.Ytnilogameaaooaa.Q Go.Proofs.YtnilogameaaooaaW.PrintWords Go.Proofs.YtnilogameaaooaaW.PrintLast Go.Proofs.YtnilogameaaooaaW.PrintMore Go.Proofs.Ytnilogameaaooaa.Bytes
set_option linter.unusedVariables false
set_option linter.unusedSimpArgs false

/-- What stands in a reader. -/
structure Rd where
  taken : Int
  code : Int
  place : Int
  shut : Bool
  plan : ByteArray
  most : Int
  item : Int
  start : Int
  state : Int
  num : Int
  need : Int
  v : Value
def Rd.cells (r : Rd) : Array Value := #[.int .i64 r.taken, .int .i64 r.code, .int .i64 r.place, .bool r.shut, .string r.plan, .int .i64 r.most, .int .i64 r.item, .int .i64 r.start, .int .i64 r.state, .int .u64 r.num, .int .i64 r.need, r.v]
def Rd.At (r : Rd) (w : World) (b : Nat) : Prop := w.heap[b]? = some (.cells r.cells 71 (0, 0))
theorem Rd.At.cell {r : Rd} {w : World} {b : Nat} (h : r.At w b) (i : Nat) : w.cell? ⟨b, i, none⟩ = r.cells[i]? := cell_of_row w b i _ _ _ h
theorem Rd.At.fro {r : Rd} {w : World} {b : Nat} (h : r.At w b) (i : Nat) : w.frozen? ⟨b, i, none⟩ = false := by
  unfold Rd.At at h
  simp [World.frozen?, h]
theorem Rd.At.set {r : Rd} {w : World} {b : Nat} (h : r.At w b) (i : Nat) (u : Value) (r' : Rd) (e : r'.cells = r.cells.setIfInBounds i u) : r'.At (w.setCell ⟨b, i, none⟩ u) b := by
  unfold Rd.At at h ⊢
  simp [World.setCell, Array.getElem?_modify, h, e]
theorem results_c {P : Program} {fn : Func} {p : Tmp} {ty : TypeId} (h : fn.results = #[.cell p ty]) (tmps : Array Value) (w : World) (g : Nat) (t : TypeId) (cs : Array Value) (fr : Nat × Nat) (d : TypeDesc)
    (hp : tmps.getD p undef = .pointer (some ⟨g, 0, none⟩)) (hg : w.heap[g]? = some (.cells cs t fr))
    (hu : P.underlying ty = some d) (hd : (match d with | .struct _ | .array _ _ => true | _ => false) = true) (hi : (P.info? ty).map (·.size) = some cs.size) :
    (results fn tmps).run P w = .ok (.agg cs) w := by
  have hp' : tmps[p]?.getD undef = .pointer (some ⟨g, 0, none⟩) := by simpa using hp
  simp [results, h, hp', asAddr, run_loadVar_row w g t ty cs fr d hg hu hd hi]
theorem at2 {X w : World} (h : X.heap.size = w.heap.size) (o1 o2 : Obj) : ((X.alloc o1).alloc o2).heap[w.heap.size + 1]? = some o2 := by
  have e : w.heap.size + 1 = (X.alloc o1).heap.size := by simp [World.alloc, h, -World.alloc_eq]
  rw [e]
  exact heap_alloc_new _ _
section
variable {r : Rd} {w : World} {b : Nat}
theorem Rd.At.c0 (h : r.At w b) : w.cell? ⟨b, 0, none⟩ = some (.int .i64 r.taken) := h.cell 0
theorem Rd.At.c1 (h : r.At w b) : w.cell? ⟨b, 1, none⟩ = some (.int .i64 r.code) := h.cell 1
theorem Rd.At.c2 (h : r.At w b) : w.cell? ⟨b, 2, none⟩ = some (.int .i64 r.place) := h.cell 2
theorem Rd.At.c3 (h : r.At w b) : w.cell? ⟨b, 3, none⟩ = some (.bool r.shut) := h.cell 3
theorem Rd.At.c4 (h : r.At w b) : w.cell? ⟨b, 4, none⟩ = some (.string r.plan) := h.cell 4
theorem Rd.At.c5 (h : r.At w b) : w.cell? ⟨b, 5, none⟩ = some (.int .i64 r.most) := h.cell 5
theorem Rd.At.c6 (h : r.At w b) : w.cell? ⟨b, 6, none⟩ = some (.int .i64 r.item) := h.cell 6
theorem Rd.At.c7 (h : r.At w b) : w.cell? ⟨b, 7, none⟩ = some (.int .i64 r.start) := h.cell 7
theorem Rd.At.c8 (h : r.At w b) : w.cell? ⟨b, 8, none⟩ = some (.int .i64 r.state) := h.cell 8
theorem Rd.At.c9 (h : r.At w b) : w.cell? ⟨b, 9, none⟩ = some (.int .u64 r.num) := h.cell 9
theorem Rd.At.c10 (h : r.At w b) : w.cell? ⟨b, 10, none⟩ = some (.int .i64 r.need) := h.cell 10
theorem Rd.At.c11 (h : r.At w b) : w.cell? ⟨b, 11, none⟩ = some r.v := h.cell 11
theorem Rd.At.lt (h : r.At w b) : b < w.heap.size := (Array.getElem?_eq_some_iff.1 h).1
end
theorem grown_set (w : World) (b i : Nat) (u : Value) : w.grownBy (w.setCell ⟨b, i, none⟩ u) (some b) :=
  ⟨rfl, rfl, rfl, by simp [World.setCell], fun k _ hk => Below.heap_setCell _ _ _ _ (fun e => hk (by rw [e]))⟩
theorem grown_trans {w w1 w2 : World} {row : Option Nat} (h : w.grownBy w1 row) (k : w1.grownBy w2 row) : w.grownBy w2 row :=
  ⟨k.os.trans h.os, k.tape.trans h.tape, k.output.trans h.output, Nat.le_trans h.size k.size, fun i hi hn => (k.block i (Nat.lt_of_lt_of_le hi h.size) hn).trans (h.block i hi hn)⟩
theorem grown_none {w w1 : World} {row : Option Nat} (h : w.grownBy w1 none) : w.grownBy w1 row := ⟨h.os, h.tape, h.output, h.size, fun k hk _ => h.block k hk (by simp)⟩
/-- What a method that only turns the reader leaves. -/
def Turned (w w' : World) (b : Nat) (r' : Rd) : Prop := r'.At w' b ∧ w.grownBy w' (some b)
theorem Turned.refl {w : World} {b : Nat} {r : Rd} (h : r.At w b) : Turned w w b r := ⟨h, rfl, rfl, rfl, Nat.le_refl _, fun _ _ _ => rfl⟩
theorem Turned.set {w w' : World} {b : Nat} {r r' : Rd} (h : Turned w w' b r) (i : Nat) (u : Value) (e : r'.cells = r.cells.setIfInBounds i u) : Turned w (w'.setCell ⟨b, i, none⟩ u) b r' := ⟨h.1.set i u r' e, grown_trans h.2 (grown_set _ _ _ _)⟩
theorem Turned.alloc {w w' : World} {b : Nat} {r : Rd} (h : Turned w w' b r) (o : Obj) : Turned w (w'.alloc o) b r := ⟨(Below.heap_alloc w' o b (by have := h.1; unfold Rd.At at this; exact (Array.getElem?_eq_some_iff.1 this).1)).trans h.1, grown_trans h.2 (grown_none (World.grownBy_alloc _ o none))⟩
theorem Turned.trans {w w1 w2 : World} {b : Nat} {r r' : Rd} (h : Turned w w1 b r) (k : Turned w1 w2 b r') : Turned w w2 b r' := ⟨k.1, grown_trans h.2 k.2⟩
theorem Turned.drewN {w w' : World} {b : Nat} {r : Rd} (h : Turned w w' b r) (n : Nat) : Turned w (w'.drewN n) b r := ⟨h.1, ⟨h.2.os, h.2.tape, h.2.output, h.2.size, h.2.block⟩⟩
set_option maxHeartbeats 2000000 in
set_option maxRecDepth 100000 in
theorem fail_calls (r : Rd) (w : World) (b : Nat) (h : r.At w b) (code place : Int) :
    Calls Try.prog 37 #[.pointer (some ⟨b, 0, none⟩), .int .i64 code, .int .i64 place] w fun e w' => e = .returned (.tuple #[]) ∧ Turned w w' b { r with code := code, place := place } ∧ w'.heap.size = w.heap.size := by
  have H := Aside0.mk h
  have c1 := h.c1
  have c2 := h.c2
  have f1 := h.fro 1
  have f2 := h.fro 2
  clear h
  go_enter Try.func37, Try.ntmps37
  go_wp2
  go_end0
  exact ⟨by rfl, ((Turned.refl H.out).set 1 (.int .i64 code) (r' := { r with code := code }) rfl).set 2 (.int .i64 place) rfl, by simp [World.setCell]⟩
set_option maxHeartbeats 2000000 in
set_option maxRecDepth 100000 in
theorem stopped_calls (r : Rd) (w : World) (b : Nat) (h : r.At w b) :
    Calls Try.prog 38 #[.pointer (some ⟨b, 0, none⟩)] w fun e w' => e = .returned (.bool (r.shut || r.code != 0)) ∧ w' = w := by
  have c1 := h.c1
  have c3 := h.c3
  clear h
  obtain ⟨taken, code, place, shut, plan, most, item, start, state, num, need, v⟩ := r
  simp only at c1 c3
  cases shut with
  | true =>
    go_enter Try.func38, Try.ntmps38
    go_wp2
    go_ret
    exact ⟨rfl, rfl⟩
  | false =>
    go_enter Try.func38, Try.ntmps38
    go_wp2
    go_ret
    exact ⟨rfl, rfl⟩
set_option maxHeartbeats 2000000 in
set_option maxRecDepth 100000 in
theorem done_calls (r : Rd) (w : World) (b : Nat) (h : r.At w b) (i : Bool) (n : Int) (s : ByteArray) (hi : 0 ≤ r.item ∧ r.item < 9223372036854775807) :
    Calls Try.prog 47 #[.pointer (some ⟨b, 0, none⟩), .agg #[.bool i, .int .u64 n, .string s]] w fun e w' => e = .returned (.agg #[.bool i, .int .u64 n, .string s]) ∧ Turned w w' b { r with item := r.item + 1, start := r.taken, state := 0, need := 8, num := 0, v := .slice none 0 0 } := by
  have H := Aside0.mk h
  have hlt := h.lt
  have hlt1 : b < w.heap.size + 1 := by omega
  have hne : (w.heap.size = b) = False := eq_false (by omega)
  have hne1 : (w.heap.size + 1 = b) = False := eq_false (by omega)
  have c0 := h.c0
  have f0 := h.fro 0
  have c6 := h.c6
  have f6 := h.fro 6
  have c7 := h.c7
  have f7 := h.fro 7
  have c8 := h.c8
  have f8 := h.fro 8
  have c9 := h.c9
  have f9 := h.fro 9
  have c10 := h.c10
  have f10 := h.fro 10
  have c11 := h.c11
  have f11 := h.fro 11
  clear h
  go_enter Try.func47, Try.ntmps47
  go_wp2
  refine bodyPost_ret (results_c rfl _ _ (w.heap.size + 1) 55 _ (0, 0) _ rfl (at2 (by simp [World.setCell]) _ _) Try.underlying55 rfl rfl) rfl ⟨rfl, ?_⟩
  refine Turned.alloc (Turned.alloc ?_ _) _
  exact ((((((Turned.refl H.out).set 6 (.int .i64 (r.item + 1)) (r' := { r with item := r.item + 1 }) rfl).set 7 (.int .i64 r.taken) (r' := { r with item := r.item + 1, start := r.taken }) rfl).set 8 (.int .i64 0) (r' := { r with item := r.item + 1, start := r.taken, state := 0 }) rfl).set 10 (.int .i64 8) (r' := { r with item := r.item + 1, start := r.taken, state := 0, need := 8 }) rfl).set 9 (.int .u64 0) (r' := { r with item := r.item + 1, start := r.taken, state := 0, need := 8, num := 0 }) rfl).set 11 (.slice none 0 0) rfl
end Go.Proofs.Ytnilogameaaooaa.Rdr
/- wire.Reader.next, walked by hand, case by case. -/
namespace Go.Proofs.Ytnilogameaaooaa.Rdr
open Go.RowKit Go.Proofs.Ytnilogameaaooaa.Q Go.Proofs.YtnilogameaaooaaW.PrintWords Go.Proofs.YtnilogameaaooaaW.PrintLast Go.Proofs.YtnilogameaaooaaW.PrintMore Go.Proofs.Ytnilogameaaooaa.Bytes
set_option linter.unusedVariables false
set_option linter.unusedSimpArgs false

/-- The reader at the next item. -/
def Rd.next (r : Rd) : Rd := { r with item := r.item + 1, start := r.taken, state := 0, need := 8, num := 0, v := .slice none 0 0 }
theorem kept_block {W w1 : World} {b : Nat} {r' : Rd} (hT : Turned W w1 b r') {g : Nat} {o : Obj} (hg : W.heap[g]? = some o) (hne : g ≠ b) : w1.heap[g]? = some o :=
  (hT.2.block g (Array.getElem?_eq_some_iff.1 hg).1 (fun e => hne (by injection e))).trans hg
theorem set3 {w1 : World} {g : Nat} {a0 a1 a2 x0 x1 x2 : Value} {t : TypeId} (h : w1.heap[g]? = some (.cells #[a0, a1, a2] t (0, 0))) :
    (((w1.setCell ⟨g, 0, none⟩ x0).setCell ⟨g, 1, none⟩ x1).setCell ⟨g, 2, none⟩ x2).heap[g]? = some (.cells #[x0, x1, x2] t (0, 0)) := by
  simp [World.setCell, Array.getElem?_modify, h]
theorem Turned.other {w w' : World} {b : Nat} {r : Rd} (h : Turned w w' b r) {g : Nat} (hg : w.heap.size ≤ g) (hb : b < w.heap.size) (i : Nat) (u : Value) : Turned w (w'.setCell ⟨g, i, none⟩ u) b r := by
  refine ⟨(Below.heap_setCell w' ⟨g, i, none⟩ u b (by simp only; omega)).trans h.1, h.2.os, h.2.tape, h.2.output, by simpa [World.setCell] using h.2.size, fun k hk hn => (Below.heap_setCell w' ⟨g, i, none⟩ u k (by simp only; omega)).trans (h.2.block k hk hn)⟩
theorem cell3 {w1 : World} {g : Nat} {cs : Array Value} {t : TypeId} (h : w1.heap[g]? = some (.cells cs t (0, 0))) (i : Nat) : w1.cell? ⟨g, i, none⟩ = cs[i]? := cell_of_row w1 g i _ _ _ h
theorem fro3 {w1 : World} {g : Nat} {cs : Array Value} {t : TypeId} (h : w1.heap[g]? = some (.cells cs t (0, 0))) (i : Nat) : w1.frozen? ⟨g, i, none⟩ = false := by simp [World.frozen?, h]
theorem alloc_at {W : World} {b : Nat} {r : Rd} (h : r.At W b) (o : Obj) (n : Nat) : r.At ((W.alloc o).drewN n) b := (((Turned.refl h).alloc o).drewN n).1
theorem keep_set {w : World} {g b : Nat} {o : Obj} (h : w.heap[g]? = some o) (hne : g ≠ b) {i : Nat} {u : Value} : (w.setCell ⟨b, i, none⟩ u).heap[g]? = some o := (Below.heap_setCell w ⟨b, i, none⟩ u g hne).trans h
theorem from_alloc {w w' : World} {b : Nat} {r : Rd} {o : Obj} {n : Nat} (h : Turned ((w.alloc o).drewN n) w' b r) : Turned w w' b r := by
  have e : (w.alloc o).heap.size = w.heap.size + 1 := by simp [World.alloc, -World.alloc_eq]
  have hs : (w.alloc o).heap.size ≤ w'.heap.size := h.2.size
  exact ⟨h.1, h.2.os, h.2.tape, h.2.output, by omega, fun k hk hn => (h.2.block k (show k < (w.alloc o).heap.size by omega) hn).trans (Below.heap_alloc w o k hk)⟩
theorem Turned.at_alloc {w : World} {b : Nat} {r : Rd} (h : r.At w b) (o : Obj) (n : Nat) : Turned w ((w.alloc o).drewN n) b r := ((Turned.refl h).alloc o).drewN n
set_option maxHeartbeats 4000000 in
set_option maxRecDepth 100000 in
theorem next_int (r : Rd) (w : World) (b : Nat) (h : r.At w b) (k : Nat) (hk : r.item = (k : Int)) (hk1 : k < r.plan.size) (hk2 : r.plan.size ≤ 140737488355328) (hc : r.plan[k]'hk1 = 105) :
    Calls Try.prog 40 #[.pointer (some ⟨b, 0, none⟩)] w fun e w' => e = .returned (.tuple #[.agg #[.bool true, .int .u64 r.num, .string ⟨#[]⟩], .bool true]) ∧ Turned w w' b r.next := by
  have H := Aside0.mk h
  obtain ⟨taken, code, place, shut, plan, most, item, start, state, num, need, v⟩ := r
  simp only at hk hk1 hk2 hc
  subst hk
  have hlt := h.lt
  have hlt1 : b < w.heap.size + 1 := by omega
  have hne : (w.heap.size = b) = False := eq_false (by omega)
  have hne' : (b = w.heap.size) = False := eq_false (by omega)
  have c4 := h.c4
  have c6 := h.c6
  have c8 := h.c8
  have c9 := h.c9
  have c10 := h.c10
  have c11 := h.c11
  have f8 := h.fro 8
  have f10 := h.fro 10
  simp only at c4 c6 c8 c9 c10 c11
  have hcb : ((plan[k]'hk1).toNat : Int) = 105 := by rw [hc]; rfl
  clear hc
  clear h
  go_enter Try.func40, Try.ntmps40
  go_wp2
  go_quiet (fail)
  go_wp2_with (go_at_call 47; refine (done_calls ⟨taken, code, place, shut, plan, most, (k : Int), start, state, num, need, v⟩ _ b (alloc_at H.out _ _) true num ⟨#[]⟩ (by simp only; omega)).mono ?_; rintro e w1 ⟨rfl, hT⟩; have HT := Aside0.mk (from_alloc hT); have HG := kept_block hT (show ((w.alloc (.cells #[.bool false, .int .u64 0, .string ⟨#[]⟩] 55)).drewN nq).heap[w.heap.size]? = some (.cells #[.bool false, .int .u64 0, .string ⟨#[]⟩] 55 (0, 0)) from heap_alloc_new w _) (by omega); have d0 := cell3 HG 0; have d1 := cell3 HG 1; have d2 := cell3 HG 2; have e0 := fro3 HG 0; have e1 := fro3 HG 1; have e2 := fro3 HG 2; replace HG := Aside0.mk HG; clear hT)
  refine bodyPost_ret (results_ct rfl _ _ w.heap.size 55 _ (0, 0) _ rfl (set3 HG.out) Try.underlying55 rfl rfl) rfl ⟨rfl, ?_⟩
  exact (((HT.out).other (Nat.le_refl _) hlt _ _).other (Nat.le_refl _) hlt _ _).other (Nat.le_refl _) hlt _ _
set_option maxHeartbeats 4000000 in
set_option maxRecDepth 100000 in
theorem next_head (r : Rd) (w : World) (b : Nat) (h : r.At w b) (k : Nat) (hk : r.item = (k : Int)) (hk1 : k < r.plan.size) (hk2 : r.plan.size ≤ 140737488355328) (hc : r.plan[k]'hk1 ≠ 105) (hs : r.state = 0) (hn : 0 < r.num ∧ r.num ≤ 9223372036854775807) :
    Calls Try.prog 40 #[.pointer (some ⟨b, 0, none⟩)] w fun e w' => e = .returned (.tuple #[.agg #[.bool false, .int .u64 0, .string ⟨#[]⟩], .bool false]) ∧ Turned w w' b { r with state := 1, need := r.num } := by
  have H := Aside0.mk h
  obtain ⟨taken, code, place, shut, plan, most, item, start, state, num, need, v⟩ := r
  simp only at hk hk1 hk2 hc hs hn
  subst hk
  have hlt := h.lt
  have hlt1 : b < w.heap.size + 1 := by omega
  have hne : (w.heap.size = b) = False := eq_false (by omega)
  have hne' : (b = w.heap.size) = False := eq_false (by omega)
  have c4 := h.c4
  have c6 := h.c6
  have c8 := h.c8
  have c9 := h.c9
  have c10 := h.c10
  have c11 := h.c11
  have f8 := h.fro 8
  have f10 := h.fro 10
  simp only at c4 c6 c8 c9 c10 c11
  have hcb : (((plan[k]'hk1).toNat : Int) == 105) = false := by rw [beq_eq_false_iff_ne]; intro e; exact hc ((byte_eq_iff _ 105).1 e)
  clear hc
  have hw : wrap64 num = num := w64 (by omega) (by omega)
  subst hs
  have hn0 : decide (0 < num) = true := decide_eq_true hn.1
  clear h
  go_enter Try.func40, Try.ntmps40
  go_wp2
  go_quiet (fail)
  go_wp2
  refine bodyPost_ret (results_ct rfl _ _ w.heap.size 55 #[.bool false, .int .u64 0, .string ⟨#[]⟩] (0, 0) _ rfl (set3 (keep_set (keep_set (heap_alloc_new w (.cells #[.bool false, .int .u64 0, .string ⟨#[]⟩] 55)) (by omega)) (by omega))) Try.underlying55 rfl rfl) rfl ⟨rfl, ?_⟩
  exact (((((Turned.at_alloc H.out _ nq).set 8 _ (r' := ⟨taken, code, place, shut, plan, most, (k : Int), start, 1, num, need, v⟩) rfl).set 10 _ (r' := ⟨taken, code, place, shut, plan, most, (k : Int), start, 1, num, num, v⟩) rfl).other (Nat.le_refl _) hlt _ _).other (Nat.le_refl _) hlt _ _).other (Nat.le_refl _) hlt _ _
set_option maxHeartbeats 4000000 in
set_option maxRecDepth 100000 in
theorem next_pad (r : Rd) (w : World) (b : Nat) (h : r.At w b) (k : Nat) (hk : r.item = (k : Int)) (hk1 : k < r.plan.size) (hk2 : r.plan.size ≤ 140737488355328) (hc : r.plan[k]'hk1 ≠ 105) (hs : r.state = 1) (hn : 0 < r.num ∧ r.num ≤ 9223372036854775807) (hz : r.num % 8 ≠ 0) :
    Calls Try.prog 40 #[.pointer (some ⟨b, 0, none⟩)] w fun e w' => e = .returned (.tuple #[.agg #[.bool false, .int .u64 0, .string ⟨#[]⟩], .bool false]) ∧ Turned w w' b { r with state := 2, need := 8 - r.num % 8 } := by
  have H := Aside0.mk h
  obtain ⟨taken, code, place, shut, plan, most, item, start, state, num, need, v⟩ := r
  simp only at hk hk1 hk2 hc hs hn hz
  subst hk
  have hlt := h.lt
  have hlt1 : b < w.heap.size + 1 := by omega
  have hne : (w.heap.size = b) = False := eq_false (by omega)
  have hne' : (b = w.heap.size) = False := eq_false (by omega)
  have c4 := h.c4
  have c6 := h.c6
  have c8 := h.c8
  have c9 := h.c9
  have c10 := h.c10
  have c11 := h.c11
  have f8 := h.fro 8
  have f10 := h.fro 10
  simp only at c4 c6 c8 c9 c10 c11
  have hcb : (((plan[k]'hk1).toNat : Int) == 105) = false := by rw [beq_eq_false_iff_ne]; intro e; exact hc ((byte_eq_iff _ 105).1 e)
  clear hc
  have hw : wrap64 num = num := w64 (by omega) (by omega)
  subst hs
  have hr : ((num % 8 : Int) != 0) = true := bne_iff_ne.2 hz
  have hn0 : 0 ≤ num := by omega
  clear h
  go_enter Try.func40, Try.ntmps40
  go_wp2
  go_quiet (fail)
  go_wp2
  refine bodyPost_ret (results_ct rfl _ _ w.heap.size 55 #[.bool false, .int .u64 0, .string ⟨#[]⟩] (0, 0) _ rfl (set3 (keep_set (keep_set (heap_alloc_new w (.cells #[.bool false, .int .u64 0, .string ⟨#[]⟩] 55)) (by omega)) (by omega))) Try.underlying55 rfl rfl) rfl ⟨rfl, ?_⟩
  exact (((((Turned.at_alloc H.out _ nq).set 8 _ (r' := ⟨taken, code, place, shut, plan, most, (k : Int), start, 2, num, need, v⟩) rfl).set 10 _ (r' := ⟨taken, code, place, shut, plan, most, (k : Int), start, 2, num, 8 - num % 8, v⟩) rfl).other (Nat.le_refl _) hlt _ _).other (Nat.le_refl _) hlt _ _).other (Nat.le_refl _) hlt _ _
set_option maxHeartbeats 4000000 in
set_option maxRecDepth 100000 in
theorem next_text (r : Rd) (w : World) (b : Nat) (h : r.At w b) (k : Nat) (hk : r.item = (k : Int)) (hk1 : k < r.plan.size) (hk2 : r.plan.size ≤ 140737488355328) (hc : r.plan[k]'hk1 ≠ 105) (hn : 0 ≤ r.num ∧ r.num ≤ 9223372036854775807) (hs : (r.state = 0 ∧ r.num = 0) ∨ (r.state = 1 ∧ r.num % 8 = 0) ∨ r.state = 2) (base : Nat) (ok : Nat → Prop) (xs : List Int) (HO : Kd.R (Kd.int .u8) 5 w base ok r.v xs) :
    Calls Try.prog 40 #[.pointer (some ⟨b, 0, none⟩)] w fun e w' => e = .returned (.tuple #[.agg #[.bool false, .int .u64 0, .string (strOfNums xs)], .bool true]) ∧ Turned w w' b r.next := by
  have H := Aside0.mk h
  obtain ⟨taken, code, place, shut, plan, most, item, start, state, num, need, v⟩ := r
  simp only at hk hk1 hk2 hc hn hs HO
  subst hk
  have hlt := h.lt
  have hlt1 : b < w.heap.size + 1 := by omega
  have hne : (w.heap.size = b) = False := eq_false (by omega)
  have hne' : (b = w.heap.size) = False := eq_false (by omega)
  have c4 := h.c4
  have c6 := h.c6
  have c8 := h.c8
  have c9 := h.c9
  have c10 := h.c10
  have c11 := h.c11
  have f8 := h.fro 8
  have f10 := h.fro 10
  simp only at c4 c6 c8 c9 c10 c11
  have hcb : (((plan[k]'hk1).toNat : Int) == 105) = false := by rw [beq_eq_false_iff_ne]; intro e; exact hc ((byte_eq_iff _ 105).1 e)
  clear hc
  have hw : wrap64 num = num := w64 (by omega) (by omega)
  have hcv : ∀ (o : Obj) (n : Nat), (convert 48 9 v).run Try.prog ((w.alloc o).drewN n) = .ok (.string (strOfNums xs)) ((w.alloc o).drewN n) := fun o n => own_string (P := Try.prog) Try.underlying48 Try.underlying5 Try.underlying9 (Kd.own_of_R (Kd.R_drewN (Kd.R_alloc HO o) n))
  have hn0 : 0 ≤ num := hn.1
  replace HO := Aside0.mk HO
  clear h
  rcases hs with ⟨rfl, rfl⟩ | ⟨rfl, hz⟩ | rfl
  case' inr.inl => have hr : ((num % 8 : Int) != 0) = false := by rw [hz]; rfl
  all_goals
    go_enter Try.func40, Try.ntmps40
    go_wp2
    go_quiet (fail)
    go_wp2_with (go_at_call 47; refine (done_calls ⟨taken, code, place, shut, plan, most, (k : Int), start, _, _, need, v⟩ _ b (alloc_at H.out _ _) false 0 (strOfNums xs) (by simp only; omega)).mono ?_; rintro e w1 ⟨rfl, hT⟩; have HT := Aside0.mk (from_alloc hT); have HG := kept_block hT (show ((w.alloc (.cells #[.bool false, .int .u64 0, .string ⟨#[]⟩] 55)).drewN nq).heap[w.heap.size]? = some (.cells #[.bool false, .int .u64 0, .string ⟨#[]⟩] 55 (0, 0)) from heap_alloc_new w _) (by omega); have d0 := cell3 HG 0; have d1 := cell3 HG 1; have d2 := cell3 HG 2; have e0 := fro3 HG 0; have e1 := fro3 HG 1; have e2 := fro3 HG 2; replace HG := Aside0.mk HG; clear hT)
    refine bodyPost_ret (results_ct rfl _ _ w.heap.size 55 _ (0, 0) _ rfl (set3 HG.out) Try.underlying55 rfl rfl) rfl ⟨rfl, ?_⟩
    exact (((HT.out).other (Nat.le_refl _) hlt _ _).other (Nat.le_refl _) hlt _ _).other (Nat.le_refl _) hlt _ _
end Go.Proofs.Ytnilogameaaooaa.Rdr
/- wire.Reader.take, walked by hand, case by case. -/
namespace Go.Proofs.Ytnilogameaaooaa.Rdr
open Go.RowKit Go.Proofs.Ytnilogameaaooaa.Q Go.Proofs.YtnilogameaaooaaW.PrintWords Go.Proofs.YtnilogameaaooaaW.PrintLast Go.Proofs.YtnilogameaaooaaW.PrintMore Go.Proofs.Ytnilogameaaooaa.Bytes
set_option linter.unusedVariables false
set_option linter.unusedSimpArgs false

theorem Turned.drew1 {w w' : World} {b : Nat} {r : Rd} (h : Turned w w' b r) : Turned w w'.drew b r := ⟨h.1, ⟨h.2.os, h.2.tape, h.2.output, h.2.size, h.2.block⟩⟩
/-- The number with one byte more, in the model's own words. -/
def orNum (num c need : Int) : Int := Go.bits .or .u64 num (IntKind.u64.wrap (c * 2 ^ (8 * (8 - need)).toNat))
set_option maxHeartbeats 4000000 in
set_option maxRecDepth 100000 in
theorem take_more (r : Rd) (w : World) (b : Nat) (h : r.At w b) (c : Int) (hc : 0 ≤ c ∧ c < 256) (hs : r.state = 0) (hn : 1 ≤ r.need ∧ r.need ≤ 8) (h1 : r.need ≠ 1) :
    Calls Try.prog 39 #[.pointer (some ⟨b, 0, none⟩), .int .u8 c] w fun e w' => e = .returned (.bool true) ∧ Turned w w' b { r with num := orNum r.num c r.need, need := r.need - 1 } := by
  have H := Aside0.mk h
  obtain ⟨taken, code, place, shut, plan, most, item, start, state, num, need, v⟩ := r
  simp only at hs hn h1
  subst hs
  have c8 := h.c8
  simp only at c8
  have n0 : 0 ≤ 8 * (8 - need) := by omega
  have n1 : 8 * (8 - need) ≤ 64 := by omega
  have k1 : IntKind.i64.wrap (8 - need) = 8 - need := IntWalk.i64_in _ (by omega)
  have k2 : IntKind.i64.wrap (8 * (8 - need)) = 8 * (8 - need) := IntWalk.i64_in _ (by omega)
  have k3 : IntKind.u64.wrap c = c := by
    have : IntKind.u64.wrap c = c % 18446744073709551616 := rfl
    omega
  have b1 : (need == 1) = false := beq_eq_false_iff_ne.2 h1
  clear h
  go_enter Try.func39, Try.ntmps39
  go_wp2
  clear c8
  have H1 := Turned.refl H.out
  refine wp_region_still_tail 16 (by kernel_rfl) (by kernel_rfl) ?_
  change wpStill _ _ (World.drew w) (fun a' => wpList _ _ _ _ a' (World.drew w)) _ _
  have H2 := Turned.drew1 H1
  generalize World.drew w = w2 at H2 ⊢
  have c9 := H2.1.c9
  have c10 := H2.1.c10
  have f9 := H2.1.fro 9
  simp only at c9 c10
  replace H2 := Aside0.mk H2
  simp only [List.take_succ_cons, List.take_zero, List.drop_succ_cons, List.drop_zero]
  repeat still_step
  refine wpStill_nil ?_
  change wpList _ _ _ _ _ w2
  go_wp2
  clear c9 c10 f9
  have H3 := (H2.out).set 9 (.int .u64 (orNum num c need)) (r' := ⟨taken, code, place, shut, plan, most, item, start, 0, orNum num c need, need, v⟩) rfl
  clear H1 H2
  change Code.wp _ _ _ _ (World.setCell w2 _ (.int .u64 (orNum num c need)))
  obtain ⟨N, hN⟩ : ∃ N, orNum num c need = N := ⟨_, rfl⟩
  rw [hN] at H3 ⊢
  have HN := Aside0.mk hN
  clear hN
  generalize World.setCell w2 _ (.int .u64 N) = w3 at H3 ⊢
  have c10 := H3.1.c10
  have f10 := H3.1.fro 10
  simp only at c10
  replace H3 := Aside0.mk H3
  have k4 : IntKind.i64.wrap (need - 1) = need - 1 := IntWalk.i64_in _ (by omega)
  go_quiet (fail)
  go_wp2
  go_ret
  obtain rfl := HN.out
  exact ⟨rfl, (H3.out.drewN _).set 10 _ rfl⟩
set_option maxHeartbeats 4000000 in
set_option maxRecDepth 100000 in
theorem take_last_i (r : Rd) (w : World) (b : Nat) (h : r.At w b) (c : Int) (hc : 0 ≤ c ∧ c < 256) (hs : r.state = 0) (hn : 1 ≤ r.need ∧ r.need ≤ 8) (h1 : r.need = 1) (k : Nat) (hk : r.item = (k : Int)) (hk1 : k < r.plan.size) (hk2 : r.plan.size ≤ 140737488355328) (ht : r.plan[k]'hk1 ≠ 116) :
    Calls Try.prog 39 #[.pointer (some ⟨b, 0, none⟩), .int .u8 c] w fun e w' => e = .returned (.bool true) ∧ Turned w w' b { r with num := orNum r.num c r.need, need := r.need - 1 } := by
  have H := Aside0.mk h
  obtain ⟨taken, code, place, shut, plan, most, item, start, state, num, need, v⟩ := r
  simp only at hs hn h1 hk hk1 hk2 ht
  subst hs
  have c8 := h.c8
  simp only at c8
  have n0 : 0 ≤ 8 * (8 - need) := by omega
  have n1 : 8 * (8 - need) ≤ 64 := by omega
  have k1 : IntKind.i64.wrap (8 - need) = 8 - need := IntWalk.i64_in _ (by omega)
  have k2 : IntKind.i64.wrap (8 * (8 - need)) = 8 * (8 - need) := IntWalk.i64_in _ (by omega)
  have k3 : IntKind.u64.wrap c = c := by
    have : IntKind.u64.wrap c = c % 18446744073709551616 := rfl
    omega
  have B1 := Aside0.mk (show (need == 1) = true from beq_iff_eq.2 h1)
  subst hk
  clear h1
  have hcb : (((plan[k]'hk1).toNat : Int) == 116) = false := by rw [beq_eq_false_iff_ne]; intro e; exact ht ((byte_eq_iff _ 116).1 e)
  clear ht
  clear h
  go_enter Try.func39, Try.ntmps39
  go_wp2
  clear c8
  have H1 := Turned.refl H.out
  refine wp_region_still_tail 16 (by kernel_rfl) (by kernel_rfl) ?_
  change wpStill _ _ (World.drew w) (fun a' => wpList _ _ _ _ a' (World.drew w)) _ _
  have H2 := Turned.drew1 H1
  generalize World.drew w = w2 at H2 ⊢
  have c9 := H2.1.c9
  have c10 := H2.1.c10
  have f9 := H2.1.fro 9
  simp only at c9 c10
  replace H2 := Aside0.mk H2
  simp only [List.take_succ_cons, List.take_zero, List.drop_succ_cons, List.drop_zero]
  repeat still_step
  refine wpStill_nil ?_
  change wpList _ _ _ _ _ w2
  go_wp2
  clear c9 c10 f9
  have H3 := (H2.out).set 9 (.int .u64 (orNum num c need)) (r' := ⟨taken, code, place, shut, plan, most, (k : Int), start, 0, orNum num c need, need, v⟩) rfl
  clear H1 H2
  change Code.wp _ _ _ _ (World.setCell w2 _ (.int .u64 (orNum num c need)))
  obtain ⟨N, hN⟩ : ∃ N, orNum num c need = N := ⟨_, rfl⟩
  rw [hN] at H3 ⊢
  have HN := Aside0.mk hN
  clear hN
  generalize World.setCell w2 _ (.int .u64 N) = w3 at H3 ⊢
  have c4 := H3.1.c4
  have c6 := H3.1.c6
  have c10 := H3.1.c10
  have f10 := H3.1.fro 10
  simp only at c4 c6 c10
  replace H3 := Aside0.mk H3
  have k4 : IntKind.i64.wrap (need - 1) = need - 1 := IntWalk.i64_in _ (by omega)
  have b1 := B1.out
  go_quiet (fail)
  go_wp2
  go_ret
  obtain rfl := HN.out
  exact ⟨rfl, (H3.out.drewN _).set 10 _ rfl⟩
set_option maxHeartbeats 4000000 in
set_option maxRecDepth 100000 in
theorem take_last_t (r : Rd) (w : World) (b : Nat) (h : r.At w b) (c : Int) (hc : 0 ≤ c ∧ c < 256) (hs : r.state = 0) (hn : 1 ≤ r.need ∧ r.need ≤ 8) (h1 : r.need = 1) (k : Nat) (hk : r.item = (k : Int)) (hk1 : k < r.plan.size) (hk2 : r.plan.size ≤ 140737488355328) (ht : r.plan[k]'hk1 = 116) (hm : 0 ≤ r.most ∧ r.most ≤ 9223372036854775807) (hle : orNum r.num c r.need ≤ r.most) :
    Calls Try.prog 39 #[.pointer (some ⟨b, 0, none⟩), .int .u8 c] w fun e w' => e = .returned (.bool true) ∧ Turned w w' b { r with num := orNum r.num c r.need, need := r.need - 1 } := by
  have H := Aside0.mk h
  obtain ⟨taken, code, place, shut, plan, most, item, start, state, num, need, v⟩ := r
  simp only at hs hn h1 hk hk1 hk2 ht hm hle
  subst hs
  have c8 := h.c8
  simp only at c8
  have n0 : 0 ≤ 8 * (8 - need) := by omega
  have n1 : 8 * (8 - need) ≤ 64 := by omega
  have k1 : IntKind.i64.wrap (8 - need) = 8 - need := IntWalk.i64_in _ (by omega)
  have k2 : IntKind.i64.wrap (8 * (8 - need)) = 8 * (8 - need) := IntWalk.i64_in _ (by omega)
  have k3 : IntKind.u64.wrap c = c := by
    have : IntKind.u64.wrap c = c % 18446744073709551616 := rfl
    omega
  have B1 := Aside0.mk (show (need == 1) = true from beq_iff_eq.2 h1)
  subst hk
  clear h1
  have hcb : (((plan[k]'hk1).toNat : Int) == 116) = true := by rw [ht]; rfl
  clear ht
  have k5 : IntKind.u64.wrap most = most := by
    have : IntKind.u64.wrap most = most % 18446744073709551616 := rfl
    omega
  clear h
  go_enter Try.func39, Try.ntmps39
  go_wp2
  clear c8
  have H1 := Turned.refl H.out
  refine wp_region_still_tail 16 (by kernel_rfl) (by kernel_rfl) ?_
  change wpStill _ _ (World.drew w) (fun a' => wpList _ _ _ _ a' (World.drew w)) _ _
  have H2 := Turned.drew1 H1
  generalize World.drew w = w2 at H2 ⊢
  have c9 := H2.1.c9
  have c10 := H2.1.c10
  have f9 := H2.1.fro 9
  simp only at c9 c10
  replace H2 := Aside0.mk H2
  simp only [List.take_succ_cons, List.take_zero, List.drop_succ_cons, List.drop_zero]
  repeat still_step
  refine wpStill_nil ?_
  change wpList _ _ _ _ _ w2
  go_wp2
  clear c9 c10 f9
  have H3 := (H2.out).set 9 (.int .u64 (orNum num c need)) (r' := ⟨taken, code, place, shut, plan, most, (k : Int), start, 0, orNum num c need, need, v⟩) rfl
  clear H1 H2
  change Code.wp _ _ _ _ (World.setCell w2 _ (.int .u64 (orNum num c need)))
  obtain ⟨N, hN⟩ : ∃ N, orNum num c need = N := ⟨_, rfl⟩
  rw [hN] at H3 ⊢
  have hd : decide (most < N) = false := decide_eq_false (by omega)
  have HN := Aside0.mk hN
  clear hN
  generalize World.setCell w2 _ (.int .u64 N) = w3 at H3 ⊢
  have c4 := H3.1.c4
  have c5 := H3.1.c5
  have c6 := H3.1.c6
  have c9 := H3.1.c9
  have c10 := H3.1.c10
  have f10 := H3.1.fro 10
  simp only at c4 c5 c6 c9 c10
  replace H3 := Aside0.mk H3
  have k4 : IntKind.i64.wrap (need - 1) = need - 1 := IntWalk.i64_in _ (by omega)
  have b1 := B1.out
  go_quiet (fail)
  go_wp2
  go_ret
  obtain rfl := HN.out
  exact ⟨rfl, (H3.out.drewN _).set 10 _ rfl⟩
set_option maxHeartbeats 4000000 in
set_option maxRecDepth 100000 in
theorem take_long (r : Rd) (w : World) (b : Nat) (h : r.At w b) (c : Int) (hc : 0 ≤ c ∧ c < 256) (hs : r.state = 0) (hn : 1 ≤ r.need ∧ r.need ≤ 8) (h1 : r.need = 1) (k : Nat) (hk : r.item = (k : Int)) (hk1 : k < r.plan.size) (hk2 : r.plan.size ≤ 140737488355328) (ht : r.plan[k]'hk1 = 116) (hm : 0 ≤ r.most ∧ r.most ≤ 9223372036854775807) (hle : r.most < orNum r.num c r.need) :
    Calls Try.prog 39 #[.pointer (some ⟨b, 0, none⟩), .int .u8 c] w fun e w' => e = .returned (.bool false) ∧ Turned w w' b { r with num := orNum r.num c r.need, code := 6, place := r.start } := by
  have H := Aside0.mk h
  obtain ⟨taken, code, place, shut, plan, most, item, start, state, num, need, v⟩ := r
  simp only at hs hn h1 hk hk1 hk2 ht hm hle
  subst hs
  have c8 := h.c8
  simp only at c8
  have n0 : 0 ≤ 8 * (8 - need) := by omega
  have n1 : 8 * (8 - need) ≤ 64 := by omega
  have k1 : IntKind.i64.wrap (8 - need) = 8 - need := IntWalk.i64_in _ (by omega)
  have k2 : IntKind.i64.wrap (8 * (8 - need)) = 8 * (8 - need) := IntWalk.i64_in _ (by omega)
  have k3 : IntKind.u64.wrap c = c := by
    have : IntKind.u64.wrap c = c % 18446744073709551616 := rfl
    omega
  have B1 := Aside0.mk (show (need == 1) = true from beq_iff_eq.2 h1)
  subst hk
  clear h1
  have hcb : (((plan[k]'hk1).toNat : Int) == 116) = true := by rw [ht]; rfl
  clear ht
  have k5 : IntKind.u64.wrap most = most := by
    have : IntKind.u64.wrap most = most % 18446744073709551616 := rfl
    omega
  clear h
  go_enter Try.func39, Try.ntmps39
  go_wp2
  clear c8
  have H1 := Turned.refl H.out
  refine wp_region_still_tail 16 (by kernel_rfl) (by kernel_rfl) ?_
  change wpStill _ _ (World.drew w) (fun a' => wpList _ _ _ _ a' (World.drew w)) _ _
  have H2 := Turned.drew1 H1
  generalize World.drew w = w2 at H2 ⊢
  have c9 := H2.1.c9
  have c10 := H2.1.c10
  have f9 := H2.1.fro 9
  simp only at c9 c10
  replace H2 := Aside0.mk H2
  simp only [List.take_succ_cons, List.take_zero, List.drop_succ_cons, List.drop_zero]
  repeat still_step
  refine wpStill_nil ?_
  change wpList _ _ _ _ _ w2
  go_wp2
  clear c9 c10 f9
  have H3 := (H2.out).set 9 (.int .u64 (orNum num c need)) (r' := ⟨taken, code, place, shut, plan, most, (k : Int), start, 0, orNum num c need, need, v⟩) rfl
  clear H1 H2
  change Code.wp _ _ _ _ (World.setCell w2 _ (.int .u64 (orNum num c need)))
  obtain ⟨N, hN⟩ : ∃ N, orNum num c need = N := ⟨_, rfl⟩
  rw [hN] at H3 ⊢
  have hd : decide (most < N) = true := decide_eq_true (by omega)
  have HN := Aside0.mk hN
  clear hN
  generalize World.setCell w2 _ (.int .u64 N) = w3 at H3 ⊢
  have c4 := H3.1.c4
  have c5 := H3.1.c5
  have c6 := H3.1.c6
  have c9 := H3.1.c9
  have c10 := H3.1.c10
  have f10 := H3.1.fro 10
  simp only at c4 c5 c6 c9 c10
  replace H3 := Aside0.mk H3
  have k4 : IntKind.i64.wrap (need - 1) = need - 1 := IntWalk.i64_in _ (by omega)
  have b1 := B1.out
  go_quiet (fail)
  go_wp2
  have H4 := H3.out.drewN nq
  generalize World.drewN w3 nq = w4 at H4 ⊢
  clear c4 c5 c6 c9 c10 f10
  refine wp_region_still_tail 7 (by kernel_rfl) (by kernel_rfl) ?_
  change wpStill _ _ (World.drew w4) (fun a' => wpList _ _ _ _ a' (World.drew w4)) _ _
  have H5 := Turned.drew1 H4
  generalize World.drew w4 = w5 at H5 ⊢
  have c7 := H5.1.c7
  simp only at c7
  replace H5 := Aside0.mk H5
  simp only [List.take_succ_cons, List.take_zero, List.drop_succ_cons, List.drop_zero]
  repeat still_step
  refine wpStill_nil ?_
  change wpList _ _ _ _ _ w5
  go_wp2_with (go_at_call 37; refine (fail_calls _ _ b H5.out.1 6 start).mono ?_; rintro e w6 ⟨rfl, hT, hsz⟩)
  go_ret
  obtain rfl := HN.out
  exact ⟨rfl, H5.out.trans hT⟩
set_option maxHeartbeats 4000000 in
set_option maxRecDepth 100000 in
theorem take_pad (r : Rd) (w : World) (b : Nat) (h : r.At w b) (hs : r.state = 2) (hn : 1 ≤ r.need ∧ r.need ≤ 9223372036854775807) :
    Calls Try.prog 39 #[.pointer (some ⟨b, 0, none⟩), .int .u8 0] w fun e w' => e = .returned (.bool true) ∧ Turned w w' b { r with need := r.need - 1 } := by
  have H := Aside0.mk h
  obtain ⟨taken, code, place, shut, plan, most, item, start, state, num, need, v⟩ := r
  simp only at hs hn
  subst hs
  have c8 := h.c8
  have c10 := h.c10
  have f10 := h.fro 10
  simp only at c8 c10
  clear h
  go_enter Try.func39, Try.ntmps39
  go_wp2
  go_ret
  exact ⟨rfl, (Turned.refl H.out).set 10 _ rfl⟩
set_option maxHeartbeats 4000000 in
set_option maxRecDepth 100000 in
theorem take_bad (r : Rd) (w : World) (b : Nat) (h : r.At w b) (c : Int) (hc : c ≠ 0) (hs : r.state = 2) (hn : 1 ≤ r.need ∧ r.need ≤ 9223372036854775807) :
    Calls Try.prog 39 #[.pointer (some ⟨b, 0, none⟩), .int .u8 c] w fun e w' => e = .returned (.bool false) ∧ Turned w w' b { r with code := 7, place := r.taken } := by
  have H := Aside0.mk h
  obtain ⟨taken, code, place, shut, plan, most, item, start, state, num, need, v⟩ := r
  simp only at hs hn
  subst hs
  have c8 := h.c8
  simp only at c8
  have hcb : (c != 0) = true := bne_iff_ne.2 hc
  have H4 := Turned.refl h
  clear h hc
  go_enter Try.func39, Try.ntmps39
  go_wp2
  clear c8
  refine wp_region_still_tail 8 (by kernel_rfl) (by kernel_rfl) ?_
  change wpStill _ _ (World.drew w) (fun a' => wpList _ _ _ _ a' (World.drew w)) _ _
  have H5 := Turned.drew1 H4
  generalize World.drew w = w5 at H5 ⊢
  have c0 := H5.1.c0
  simp only at c0
  replace H5 := Aside0.mk H5
  simp only [List.take_succ_cons, List.take_zero, List.drop_succ_cons, List.drop_zero]
  repeat still_step
  refine wpStill_nil ?_
  change wpList _ _ _ _ _ w5
  go_wp2_with (go_at_call 37; refine (fail_calls _ _ b H5.out.1 7 taken).mono ?_; rintro e w6 ⟨rfl, hT, hsz⟩)
  go_ret
  exact ⟨rfl, H5.out.trans hT⟩
end Go.Proofs.Ytnilogameaaooaa.Rdr
/- wire.Reader.take, walked by hand, a text's byte. -/
namespace Go.Proofs.Ytnilogameaaooaa.Rdr
open Go.RowKit Go.Proofs.Ytnilogameaaooaa.Q Go.Proofs.YtnilogameaaooaaW.PrintWords Go.Proofs.YtnilogameaaooaaW.PrintLast Go.Proofs.YtnilogameaaooaaW.PrintMore Go.Proofs.Ytnilogameaaooaa.Bytes
set_option linter.unusedVariables false
set_option linter.unusedSimpArgs false

/-- What a method leaves that turns the reader and the row of its text. -/
structure Touch (w w' : World) (b : Nat) (v : Value) : Prop where
  os : w'.os = w.os
  tape : w'.tape = w.tape
  output : w'.output = w.output
  size : w.heap.size ≤ w'.heap.size
  block : ∀ k, k < w.heap.size → k ≠ b → some k ≠ v.ownBlock → w'.heap[k]? = w.heap[k]?
theorem Turned.touch {w w' : World} {b : Nat} {r : Rd} (h : Turned w w' b r) (v : Value) : Touch w w' b v := ⟨h.2.os, h.2.tape, h.2.output, h.2.size, fun k hk hn _ => h.2.block k hk (fun e => hn (by injection e))⟩
theorem Kd_block {α : Type} {d : Kd α} {e : Nat} {w : World} {base : Nat} {ok : Nat → Prop} {v : Value} {xs : List α} (h : d.R e w base ok v xs) {b : Nat} (hb : ¬ ok b) : v.ownBlock ≠ some b := fun he => hb (h.1 b he)
set_option maxHeartbeats 4000000 in
set_option maxRecDepth 100000 in
theorem take_byte (r : Rd) (w : World) (b : Nat) (h : r.At w b) (c : Int) (hs : r.state = 1) (hn : 1 ≤ r.need ∧ r.need ≤ 9223372036854775807) (base : Nat) (ok : Nat → Prop) (xs : List Int) (HO : Kd.R (Kd.int .u8) 5 w base ok r.v xs)
    (hok : ∀ k, w.heap.size ≤ k → ok k) (hb : ¬ ok b) (hbase : base ≤ w.heap.size) (hl : xs.length + 1 ≤ 140737488355328) :
    Calls Try.prog 39 #[.pointer (some ⟨b, 0, none⟩), .int .u8 c] w fun e w' => e = .returned (.bool true) ∧ ∃ v', Rd.At { r with need := r.need - 1, v := v' } w' b ∧ Kd.R (Kd.int .u8) 5 w' base ok v' (xs ++ [c]) ∧ Touch w w' b r.v := by
  have H := Aside0.mk h
  obtain ⟨taken, code, place, shut, plan, most, item, start, state, num, need, v⟩ := r
  simp only at hs hn HO
  subst hs
  have c8 := h.c8
  have c11 := h.c11
  simp only at c8 c11
  have hne := Kd_block HO hb
  have HL := Aside0.mk (show (xs ++ [c]).length = xs.length + 1 by simp)
  replace HO := Aside0.mk HO
  have hlt := h.lt
  clear h
  go_enter Try.func39, Try.ntmps39
  go_wp2_with ((with_reducible refine gate_builtin (b := .append) (xs := #[.tmp 70, .tmp 72]) rfl ?_); at_builtin; refine Kd.R_append (Kd.int .u8) (w0 := w) base rfl (.tmp 70) (.tmp 72) 48 5 (.int .u8 0) 1 rfl Try.underlying48 info5 rfl (by decide) (by omega) v xs c [.int .u8 c] ok (fun _ => False) rfl rfl rfl (fun _ hk => hk.elim) hok HO.out (Below.refl _ _) hbase (by omega) ?_; intro v1 w1 ho hbl hg hat; obtain ⟨A1, k1, e1⟩ := Kd.R_slice ho; rw [HL.out] at e1; subst e1; have H1 : Rd.At ⟨taken, code, place, shut, plan, most, item, start, 1, num, need, v⟩ w1 b := (hg.block b hlt (fun e => hne e.symm)).trans H.out; have c10 := H1.c10; have f10 := H1.fro 10; have c11' := H1.c11; have f11 := H1.fro 11; simp only at c10 c11'; replace H1 := Aside0.mk H1)
  go_ret
  have hset : ∀ u k, ok k → (((w1.setCell ⟨b, 11, none⟩ u).setCell ⟨b, 10, none⟩ (.int .i64 (need - 1))).heap[k]? = w1.heap[k]?) := fun u k hk => by
    have hkb : k ≠ b := fun e => hb (e ▸ hk)
    rw [Below.heap_setCell _ _ _ k hkb, Below.heap_setCell _ _ _ k hkb]
  refine ⟨rfl, _, (H1.out.set 11 _ ⟨taken, code, place, shut, plan, most, item, start, 1, num, need, .slice A1 (xs.length + 1) k1⟩ rfl).set 10 (.int .i64 (need - 1)) ⟨taken, code, place, shut, plan, most, item, start, 1, num, need - 1, .slice A1 (xs.length + 1) k1⟩ rfl, Kd.R_move ho (hset _), hg.os, hg.tape, hg.output, ?_, fun k hk hkb hkv => ?_⟩
  · have := hg.size
    simpa [World.setCell] using this
  · rw [Below.heap_setCell _ _ _ k hkb, Below.heap_setCell _ _ _ k hkb]
    exact hg.block k hk hkv
end Go.Proofs.Ytnilogameaaooaa.Rdr
/- What wire.Reader does, as plain Lean: the reader's state, byte by byte; and each method's contract in its words. -/
namespace Go.Proofs.Ytnilogameaaooaa.Rdr
open Go.RowKit Go.Proofs.Ytnilogameaaooaa.Q Go.Proofs.YtnilogameaaooaaW.PrintWords Go.Proofs.YtnilogameaaooaaW.PrintLast Go.Proofs.YtnilogameaaooaaW.PrintMore Go.Proofs.Ytnilogameaaooaa.Bytes
set_option linter.unusedVariables false
set_option linter.unusedSimpArgs false

structure Ps where
  taken : Int
  code : Int
  place : Int
  shut : Bool
  plan : ByteArray
  most : Int
  item : Int
  start : Int
  state : Int
  num : Int
  need : Int
  text : List Int
def Ps.rd (p : Ps) (v : Value) : Rd := ⟨p.taken, p.code, p.place, p.shut, p.plan, p.most, p.item, p.start, p.state, p.num, p.need, v⟩
def Ps.stopped (p : Ps) : Bool := p.shut || p.code != 0
def Ps.next (p : Ps) : Ps := { p with item := p.item + 1, start := p.taken, state := 0, need := 8, num := 0, text := [] }
/-- One byte taken in. -/
def tk (p : Ps) (c : Int) : Bool × Ps :=
  if p.state = 0 then
    if p.need = 1 ∧ bt p.plan p.item = 116 ∧ p.most < orNum p.num c p.need then (false, { p with num := orNum p.num c p.need, code := 6, place := p.start })
    else (true, { p with num := orNum p.num c p.need, need := p.need - 1 })
  else if p.state = 1 then (true, { p with need := p.need - 1, text := p.text ++ [c] })
  else if c = 0 then (true, { p with need := p.need - 1 })
  else (false, { p with code := 7, place := p.taken })
/-- A phase is done. -/
def nx (p : Ps) : Option S55 × Ps :=
  if bt p.plan p.item = 105 then (some ⟨true, p.num, ⟨#[]⟩⟩, p.next)
  else if p.state = 0 ∧ 0 < p.num then (none, { p with state := 1, need := p.num })
  else if p.state = 1 ∧ p.num % 8 ≠ 0 then (none, { p with state := 2, need := 8 - p.num % 8 })
  else (some ⟨false, 0, strOfNums p.text⟩, p.next)
def feed : Ps → List Int → Ps × List S55
  | p, [] => (p, [])
  | p, c :: cs =>
    if p.stopped = true then (p, [])
    else if p.item = (p.plan.size : Int) then ({ p with code := 5, place := p.taken }, [])
    else if (tk p c).1 = true then
      let q : Ps := { (tk p c).2 with taken := (tk p c).2.taken + 1 }
      if 0 < q.need then feed q cs
      else ((feed (nx q).2 cs).1, (nx q).1.toList ++ (feed (nx q).2 cs).2)
    else ((tk p c).2, [])
def close (p : Ps) : Ps := if p.stopped = true then { p with shut := true } else if p.item < (p.plan.size : Int) then { p with code := 4, place := p.taken, shut := true } else { p with shut := true }
/-- What holds of a reader that reads. -/
structure Wf (p : Ps) : Prop where
  most : 0 ≤ p.most ∧ p.most ≤ 9223372036854775807
  taken : 0 ≤ p.taken
  len : (p.text.length : Int) ≤ p.taken
  plan : p.plan.size ≤ 140737488355328
  item : 0 ≤ p.item ∧ p.item ≤ (p.plan.size : Int)
  need : 1 ≤ p.need
  letters : p.code = 0 → ∀ k : Nat, k < p.plan.size → bt p.plan (k : Int) = 105 ∨ bt p.plan (k : Int) = 116
  phase : p.state = 0 ∧ p.need ≤ 8 ∧ 0 ≤ p.num ∧ p.num < 256 ^ (8 - p.need).toNat ∨ p.state = 1 ∧ p.need ≤ 9223372036854775807 ∧ 0 ≤ p.num ∧ p.num ≤ 9223372036854775807 ∧ p.item < (p.plan.size : Int) ∧ bt p.plan p.item ≠ 105 ∨ p.state = 2 ∧ p.need ≤ 7 ∧ 0 ≤ p.num ∧ p.num ≤ 9223372036854775807 ∧ p.item < (p.plan.size : Int) ∧ bt p.plan p.item ≠ 105

/-- What is kept beside the reader and its text. -/
structure Frame (ok : Nat → Prop) (b : Nat) (w w' : World) : Prop where
  os : w'.os = w.os
  tape : w'.tape = w.tape
  output : w'.output = w.output
  size : w.heap.size ≤ w'.heap.size
  block : ∀ k, k < w.heap.size → k ≠ b → (¬ ok k ∨ ¬ ∃ cs, w.heap[k]? = some (.cells cs 5 (0, 0))) → w'.heap[k]? = w.heap[k]?
section
variable {ok : Nat → Prop} {b : Nat} {w w1 w2 : World}
theorem Frame.refl (ok : Nat → Prop) (b : Nat) (w : World) : Frame ok b w w := ⟨rfl, rfl, rfl, Nat.le_refl _, fun _ _ _ _ => rfl⟩
theorem Frame.trans (h : Frame ok b w w1) (k : Frame ok b w1 w2) : Frame ok b w w2 :=
  ⟨k.os.trans h.os, k.tape.trans h.tape, k.output.trans h.output, Nat.le_trans h.size k.size, fun i hi hb hn => by
    have e := h.block i hi hb hn
    exact (k.block i (Nat.lt_of_lt_of_le hi h.size) hb (by rw [e]; exact hn)).trans e⟩
theorem Frame.grown (h : Frame ok b w w1) {row : Option Nat} (hg : w1.grownBy w2 row) (hr : ∀ k, row = some k → k = b ∨ w.heap.size ≤ k) : Frame ok b w w2 :=
  ⟨hg.os.trans h.os, hg.tape.trans h.tape, hg.output.trans h.output, Nat.le_trans h.size hg.size, fun i hi hb hn =>
    (hg.block i (Nat.lt_of_lt_of_le hi h.size) (fun e => by
      rcases hr i e.symm with h1 | h1
      · exact hb h1
      · omega)).trans (h.block i hi hb hn)⟩
theorem Frame.turned {r : Rd} (h : Turned w w1 b r) : Frame ok b w w1 := (Frame.refl ok b w).grown h.2 (fun k hk => .inl (by injection hk with hk; exact hk.symm))
theorem Frame.touch {v : Value} {base : Nat} {xs : List Int} (hR : Kd.R (Kd.int .u8) 5 w base ok v xs) (h : Touch w w1 b v) : Frame ok b w w1 :=
  ⟨h.os, h.tape, h.output, h.size, fun k hk hb hn => h.block k hk hb (fun e => by
    rcases hn with hn | hn
    · exact hn (hR.1 k e.symm)
    · obtain ⟨inner, ho, _⟩ := hR.2
      exact hn (own_typed ho k e.symm))⟩
theorem Frame.out (h : Frame ok b w w1) {r : Rd} (hA : r.At w b) {base : Nat} {v : Value} {its : List S55} (hO : Kd.R k55 55 w base (fun _ => True) v its) : Kd.R k55 55 w1 base (fun _ => True) v its := by
  refine Kd.R_mono (Kd.R_move (Kd.R_bound hO) ?_) (fun _ _ => trivial)
  rintro k ⟨_, _, hk, q, hq, cells, hc⟩
  have hq' : q = 55 := by
    rcases List.mem_cons.1 hq with e | e
    · exact e
    · exact absurd e (by simp [k55, Kd.iso, Kd.pair, Kd.int, Kd.bool, Kd.string, Kd.scalar])
  subst hq'
  unfold Rd.At at hA
  refine h.block k hk ?_ (.inr ?_)
  · rintro rfl
    rw [hc] at hA
    simp at hA
  · rintro ⟨cs, hcs⟩
    rw [hc] at hcs
    simp at hcs
end
/-- A reader that stands in memory. -/
def Rep (p : Ps) (w : World) (b base : Nat) (ok : Nat → Prop) : Prop := ∃ v, (p.rd v).At w b ∧ Kd.R (Kd.int .u8) 5 w base ok v p.text
end Go.Proofs.Ytnilogameaaooaa.Rdr
/- take, next and close, in the words of the plain reader. -/
namespace Go.Proofs.Ytnilogameaaooaa.Rdr
open Go.RowKit Go.Proofs.Ytnilogameaaooaa.Q Go.Proofs.YtnilogameaaooaaW.PrintWords Go.Proofs.YtnilogameaaooaaW.PrintLast Go.Proofs.YtnilogameaaooaaW.PrintMore Go.Proofs.Ytnilogameaaooaa.Bytes
set_option linter.unusedVariables false
set_option linter.unusedSimpArgs false

theorem bt_get (s : ByteArray) (k : Nat) (h : k < s.size) : bt s (k : Int) = ((s[k]'h).toNat : Int) := by
  rw [bt_bs, Int.toNat_natCast]
  have hl : k < (bs s).length := by rw [← size_bs]; exact h
  rw [List.getD_eq_getElem?_getD, List.getElem?_eq_getElem hl]
  rfl
theorem bt_is (s : ByteArray) (k : Nat) (h : k < s.size) (n : UInt8) : (bt s (k : Int) = (n.toNat : Int)) ↔ s[k]'h = n := by
  rw [bt_get s k h]; exact byte_eq_iff _ _
section
variable {ok : Nat → Prop} {b base : Nat} {w w1 : World}
theorem own_turned {v : Value} {xs : List Int} {r : Rd} (hT : Turned w w1 b r) (hb : ¬ ok b) (h : Kd.R (Kd.int .u8) 5 w base ok v xs) : Kd.R (Kd.int .u8) 5 w1 base ok v xs :=
  Kd.R_mono (Kd.R_move (Kd.R_bound h) (fun k hk => hT.2.block k hk.2.2.1 (fun e => hb (by injection e with e; exact e ▸ hk.1)))) (fun _ hk => hk.1)
theorem rep_turned {p q : Ps} {v : Value} {r : Rd} (hO : Kd.R (Kd.int .u8) 5 w base ok v p.text) (hb : ¬ ok b) (hT : Turned w w1 b r) (hr : r = q.rd v) (ht : q.text = p.text) : Rep q w1 b base ok := by
  subst hr
  exact ⟨v, hT.1, ht ▸ own_turned hT hb hO⟩
theorem rep_next {p q : Ps} {r : Rd} (hT : Turned w w1 b r) (hr : r = q.rd (.slice none 0 0)) (ht : q.text = []) : Rep q w1 b base ok := by
  subst hr
  exact ⟨_, hT.1, ht ▸ Kd.R_nil _ _ _ _ _⟩
end
theorem take_ps (p : Ps) (w : World) (b base : Nat) (ok : Nat → Prop) (hR : Rep p w b base ok) (hW : Wf p) (hrun : p.item < (p.plan.size : Int)) (c : Int) (hc : 0 ≤ c ∧ c < 256)
    (hok : ∀ k, w.heap.size ≤ k → ok k) (hb : ¬ ok b) (hbase : base ≤ w.heap.size) (hl : p.text.length + 1 ≤ 140737488355328) :
    Calls Try.prog 39 #[.pointer (some ⟨b, 0, none⟩), .int .u8 c] w fun e w' => e = .returned (.bool (tk p c).1) ∧ Rep (tk p c).2 w' b base ok ∧ Frame ok b w w' := by
  obtain ⟨v, hA, hO⟩ := hR
  obtain ⟨k, hk⟩ := Int.eq_ofNat_of_zero_le hW.item.1
  have hk1 : k < p.plan.size := by omega
  have hn1 := hW.need
  rcases hW.phase with ⟨hs, hn, hnum⟩ | ⟨hs, hn, hnum⟩ | ⟨hs, hn, hnum⟩
  · have e : tk p c = if p.need = 1 ∧ bt p.plan p.item = 116 ∧ p.most < orNum p.num c p.need then (false, { p with num := orNum p.num c p.need, code := 6, place := p.start }) else (true, { p with num := orNum p.num c p.need, need := p.need - 1 }) := by unfold tk; rw [if_pos hs]
    rw [e]
    by_cases h1 : p.need = 1
    · by_cases ht : p.plan[k]'hk1 = 116
      · by_cases hle : p.most < orNum p.num c p.need
        · rw [if_pos ⟨h1, by rw [hk]; exact (bt_is _ _ hk1 116).2 ht, hle⟩]
          refine (take_long (p.rd v) w b hA c hc hs ⟨hn1, hn⟩ h1 k hk hk1 hW.plan ht hW.most hle).mono ?_
          rintro e w' ⟨rfl, hT⟩
          exact ⟨rfl, rep_turned hO hb hT rfl rfl, Frame.turned hT⟩
        · rw [if_neg (fun q => hle q.2.2)]
          refine (take_last_t (p.rd v) w b hA c hc hs ⟨hn1, hn⟩ h1 k hk hk1 hW.plan ht hW.most (by show orNum p.num c p.need ≤ p.most; omega)).mono ?_
          rintro e w' ⟨rfl, hT⟩
          exact ⟨rfl, rep_turned hO hb hT rfl rfl, Frame.turned hT⟩
      · rw [if_neg (fun q => ht ((bt_is _ _ hk1 116).1 (by rw [← hk]; exact q.2.1)))]
        refine (take_last_i (p.rd v) w b hA c hc hs ⟨hn1, hn⟩ h1 k hk hk1 hW.plan ht).mono ?_
        rintro e w' ⟨rfl, hT⟩
        exact ⟨rfl, rep_turned hO hb hT rfl rfl, Frame.turned hT⟩
    · rw [if_neg (fun q => h1 q.1)]
      refine (take_more (p.rd v) w b hA c hc hs ⟨hn1, hn⟩ h1).mono ?_
      rintro e w' ⟨rfl, hT⟩
      exact ⟨rfl, rep_turned hO hb hT rfl rfl, Frame.turned hT⟩
  · have e : tk p c = (true, { p with need := p.need - 1, text := p.text ++ [c] }) := by unfold tk; rw [if_neg (by omega), if_pos hs]
    rw [e]
    refine (take_byte (p.rd v) w b hA c hs ⟨hn1, hn⟩ base ok p.text hO hok hb hbase hl).mono ?_
    rintro e w' ⟨rfl, v', hA', hO', hT⟩
    exact ⟨rfl, ⟨v', hA', hO'⟩, Frame.touch hO hT⟩
  · by_cases h0 : c = 0
    · have e : tk p c = (true, { p with need := p.need - 1 }) := by unfold tk; rw [if_neg (by omega), if_neg (by omega), if_pos h0]
      rw [e, h0]
      refine (take_pad (p.rd v) w b hA hs ⟨hn1, by show p.need ≤ _; omega⟩).mono ?_
      rintro e w' ⟨rfl, hT⟩
      exact ⟨rfl, rep_turned hO hb hT rfl rfl, Frame.turned hT⟩
    · have e : tk p c = (false, { p with code := 7, place := p.taken }) := by unfold tk; rw [if_neg (by omega), if_neg (by omega), if_neg h0]
      rw [e]
      refine (take_bad (p.rd v) w b hA c h0 hs ⟨hn1, by show p.need ≤ _; omega⟩).mono ?_
      rintro e w' ⟨rfl, hT⟩
      exact ⟨rfl, rep_turned hO hb hT rfl rfl, Frame.turned hT⟩
/-- The item that next answers, whole or not. -/
def itemOf (o : Option S55) : S55 := o.getD ⟨false, 0, ⟨#[]⟩⟩
theorem next_ps (p : Ps) (w : World) (b base : Nat) (ok : Nat → Prop) (hR : Rep p w b base ok) (h0 : 0 ≤ p.item) (hrun : p.item < (p.plan.size : Int)) (hplan : p.plan.size ≤ 140737488355328) (hb : ¬ ok b)
    (hn : bt p.plan p.item ≠ 105 → 0 ≤ p.num ∧ p.num ≤ 9223372036854775807) (hs : p.state = 0 ∨ p.state = 1 ∨ p.state = 2) :
    Calls Try.prog 40 #[.pointer (some ⟨b, 0, none⟩)] w fun e w' => e = .returned (.tuple #[.agg #[.bool (itemOf (nx p).1).f0, .int .u64 (itemOf (nx p).1).f1, .string (itemOf (nx p).1).f2], .bool (nx p).1.isSome]) ∧ Rep (nx p).2 w' b base ok ∧ Frame ok b w w' := by
  obtain ⟨v, hA, hO⟩ := hR
  obtain ⟨k, hk⟩ := Int.eq_ofNat_of_zero_le h0
  have hk1 : k < p.plan.size := by omega
  by_cases hc : bt p.plan p.item = 105
  · have e : nx p = (some ⟨true, p.num, ⟨#[]⟩⟩, p.next) := by unfold nx; rw [if_pos hc]
    rw [e]
    refine (next_int (p.rd v) w b hA k hk hk1 hplan ((bt_is _ _ hk1 105).1 (by rw [← hk]; exact hc))).mono ?_
    rintro e w' ⟨rfl, hT⟩
    exact ⟨rfl, rep_next (p := p) hT rfl rfl, Frame.turned hT⟩
  · have hn := hn hc
    have hc' : p.plan[k]'hk1 ≠ 105 := fun q => hc (by rw [hk]; exact (bt_is _ _ hk1 105).2 q)
    by_cases h1 : p.state = 0 ∧ 0 < p.num
    · have e : nx p = (none, { p with state := 1, need := p.num }) := by unfold nx; rw [if_neg hc, if_pos h1]
      rw [e]
      refine (next_head (p.rd v) w b hA k hk hk1 hplan hc' h1.1 ⟨h1.2, hn.2⟩).mono ?_
      rintro e w' ⟨rfl, hT⟩
      exact ⟨rfl, rep_turned hO hb hT rfl rfl, Frame.turned hT⟩
    · by_cases h2 : p.state = 1 ∧ p.num % 8 ≠ 0
      · have e : nx p = (none, { p with state := 2, need := 8 - p.num % 8 }) := by unfold nx; rw [if_neg hc, if_neg h1, if_pos h2]
        rw [e]
        refine (next_pad (p.rd v) w b hA k hk hk1 hplan hc' h2.1 ⟨by show 0 < p.num; have := h2.2; omega, hn.2⟩ h2.2).mono ?_
        rintro e w' ⟨rfl, hT⟩
        exact ⟨rfl, rep_turned hO hb hT rfl rfl, Frame.turned hT⟩
      · have e : nx p = (some ⟨false, 0, strOfNums p.text⟩, p.next) := by unfold nx; rw [if_neg hc, if_neg h1, if_neg h2]
        rw [e]
        refine (next_text (p.rd v) w b hA k hk hk1 hplan hc' hn (show (p.state = 0 ∧ p.num = 0) ∨ (p.state = 1 ∧ p.num % 8 = 0) ∨ p.state = 2 by omega) base ok p.text hO).mono ?_
        rintro e w' ⟨rfl, hT⟩
        exact ⟨rfl, rep_next (p := p) hT rfl rfl, Frame.turned hT⟩
end Go.Proofs.Ytnilogameaaooaa.Rdr
/- A reader that reads goes on being one. -/
namespace Go.Proofs.Ytnilogameaaooaa.Rdr
open Go.RowKit Go.Proofs.Ytnilogameaaooaa.Q Go.Proofs.YtnilogameaaooaaW.PrintWords Go.Proofs.YtnilogameaaooaaW.PrintLast Go.Proofs.YtnilogameaaooaaW.PrintMore Go.Proofs.Ytnilogameaaooaa.Bytes
set_option linter.unusedVariables false
set_option linter.unusedSimpArgs false

/-- The number with one byte more. -/
theorem orNum_add (num c need : Int) (h0 : 0 ≤ num) (h1 : num < 256 ^ (8 - need).toNat) (c0 : 0 ≤ c) (c1 : c < 256) (n0 : 1 ≤ need) (n1 : need ≤ 8) :
    orNum num c need = num + c * 256 ^ (8 - need).toNat ∧ num + c * 256 ^ (8 - need).toNat < 256 ^ (9 - need).toNat := by
  obtain ⟨a, rfl⟩ := Int.eq_ofNat_of_zero_le h0
  obtain ⟨d, rfl⟩ := Int.eq_ofNat_of_zero_le c0
  obtain ⟨j, hj⟩ : ∃ j : Nat, 8 - need = (j : Int) := Int.eq_ofNat_of_zero_le (by omega)
  have hj7 : j ≤ 7 := by omega
  have e1 : (8 - need).toNat = j := by omega
  have e2 : (9 - need).toNat = j + 1 := by omega
  have e3 : (8 * (8 - need)).toNat = 8 * j := by omega
  have hp : (2 : Int) ^ (8 * j) = 256 ^ j := by rw [Int.pow_mul]; rfl
  rw [e1] at h1 ⊢
  rw [e2]
  have hpn : (256 : Int) ^ j = ((256 ^ j : Nat) : Int) := by simp
  have hps : (256 : Int) ^ (j + 1) = ((256 ^ (j + 1) : Nat) : Int) := by simp
  have ha : a < 256 ^ j := by rw [hpn] at h1; exact Int.ofNat_lt.1 h1
  have hd : d < 256 := by omega
  have hle : 256 ^ (j + 1) ≤ 256 ^ 8 := Nat.pow_le_pow_right (by omega) (by omega)
  have h8 : (256 : Nat) ^ 8 = 18446744073709551616 := by decide
  have hs : 256 ^ (j + 1) = 256 ^ j * 256 := Nat.pow_succ ..
  have hm : d * 256 ^ j + 256 ^ j ≤ 256 ^ (j + 1) := by
    have := Nat.mul_le_mul_right (256 ^ j) (show d + 1 ≤ 256 by omega)
    rw [hs, Nat.mul_comm (256 ^ j) 256]
    rw [Nat.add_mul, Nat.one_mul] at this
    exact this
  have hsum : a + d * 256 ^ j < 256 ^ (j + 1) := by omega
  refine ⟨?_, ?_⟩
  · unfold orNum
    rw [e3, hp, hpn]
    have hcast : ((d : Int) * ((256 ^ j : Nat) : Int)) = ((d * 256 ^ j : Nat) : Int) := by simp
    rw [hcast]
    have hw : IntKind.u64.wrap ((d * 256 ^ j : Nat) : Int) = ((d * 256 ^ j : Nat) : Int) := by
      have : IntKind.u64.wrap ((d * 256 ^ j : Nat) : Int) = ((d * 256 ^ j : Nat) : Int) % 18446744073709551616 := rfl
      rw [this]
      omega
    rw [hw, bits_or_u64_nat a (d * 256 ^ j) (by omega) (by omega)]
    have hpp : 256 ^ j = 2 ^ (8 * j) := by rw [Nat.pow_mul]
    have hor : a ||| d * 256 ^ j = d * 256 ^ j + a := by
      rw [hpp, Nat.mul_comm d, Nat.or_comm]
      exact (Nat.two_pow_add_eq_or_of_lt (by rw [← hpp]; exact ha) d).symm
    rw [hor]
    omega
  · rw [hpn, hps]
    have hcast : ((d : Int) * ((256 ^ j : Nat) : Int)) = ((d * 256 ^ j : Nat) : Int) := by simp
    rw [hcast]
    omega

/-- The reader with one byte more, as Feed has it. -/
def tick (p : Ps) (c : Int) : Ps := { (tk p c).2 with taken := (tk p c).2.taken + 1 }
theorem tk_head {p : Ps} {c : Int} (hs : p.state = 0) (h : (tk p c).1 = true) : tk p c = (true, { p with num := orNum p.num c p.need, need := p.need - 1 }) ∧ ¬ (p.need = 1 ∧ bt p.plan p.item = 116 ∧ p.most < orNum p.num c p.need) := by
  unfold tk at h ⊢
  rw [if_pos hs] at h ⊢
  by_cases q : p.need = 1 ∧ bt p.plan p.item = 116 ∧ p.most < orNum p.num c p.need
  · rw [if_pos q] at h; exact absurd h (by simp)
  · rw [if_neg q]; exact ⟨rfl, q⟩
theorem tk_text {p : Ps} {c : Int} (hs : p.state = 1) : tk p c = (true, { p with need := p.need - 1, text := p.text ++ [c] }) := by
  unfold tk
  rw [if_neg (by omega), if_pos hs]
theorem tk_pad {p : Ps} {c : Int} (hs : p.state = 2) (h : (tk p c).1 = true) : tk p c = (true, { p with need := p.need - 1 }) ∧ c = 0 := by
  unfold tk at h ⊢
  rw [if_neg (by omega), if_neg (by omega)] at h ⊢
  by_cases q : c = 0
  · rw [if_pos q]; exact ⟨rfl, q⟩
  · rw [if_neg q] at h; exact absurd h (by simp)
theorem tick_head {p : Ps} {c : Int} (hs : p.state = 0) (h : (tk p c).1 = true) : tick p c = { p with num := orNum p.num c p.need, need := p.need - 1, taken := p.taken + 1 } := by
  unfold tick; rw [(tk_head hs h).1]
theorem tick_text {p : Ps} {c : Int} (hs : p.state = 1) : tick p c = { p with need := p.need - 1, text := p.text ++ [c], taken := p.taken + 1 } := by
  unfold tick; rw [tk_text hs]
theorem tick_pad {p : Ps} {c : Int} (hs : p.state = 2) (h : (tk p c).1 = true) : tick p c = { p with need := p.need - 1, taken := p.taken + 1 } := by
  unfold tick; rw [(tk_pad hs h).1]
theorem wf_tick {p : Ps} {c : Int} (hW : Wf p) (hc : 0 ≤ c ∧ c < 256) (h : (tk p c).1 = true) (hn : 0 < (tick p c).need) : Wf (tick p c) := by
  obtain ⟨w1, w2, w3, w4, w5, w6, w7, w8⟩ := hW
  rcases w8 with ⟨hs, a1, a2, a3⟩ | ⟨hs, a⟩ | ⟨hs, a⟩
  · rw [tick_head hs h] at hn ⊢
    obtain ⟨o1, o2⟩ := orNum_add p.num c p.need a2 a3 hc.1 hc.2 w6 a1
    have hp : (0 : Int) ≤ 256 ^ (8 - p.need).toNat := Int.pow_nonneg (by omega)
    refine ⟨w1, by show 0 ≤ p.taken + 1; omega, by show (p.text.length : Int) ≤ p.taken + 1; omega, w4, w5, by simp only at hn ⊢; omega, w7, .inl ⟨hs, by simp only; omega, ?_, ?_⟩⟩
    · simp only
      rw [o1]
      have := Int.mul_nonneg hc.1 hp
      omega
    · simp only
      rw [o1, show 8 - (p.need - 1) = 9 - p.need by omega]
      exact o2
  · rw [tick_text hs] at hn ⊢
    refine ⟨w1, by show 0 ≤ p.taken + 1; omega, by show ((p.text ++ [c]).length : Int) ≤ p.taken + 1; rw [List.length_append]; simp; omega, w4, w5, by simp only at hn ⊢; omega, w7, .inr (.inl ⟨hs, by simp only; omega, a.2⟩)⟩
  · rw [tick_pad hs h] at hn ⊢
    refine ⟨w1, by show 0 ≤ p.taken + 1; omega, by show (p.text.length : Int) ≤ p.taken + 1; omega, w4, w5, by simp only at hn ⊢; omega, w7, .inr (.inr ⟨hs, by simp only; omega, a.2⟩)⟩
/-- What holds when a phase is done. -/
structure Done (p : Ps) : Prop where
  num : bt p.plan p.item ≠ 105 → 0 ≤ p.num ∧ p.num ≤ 9223372036854775807
  state : p.state = 0 ∨ p.state = 1 ∨ p.state = 2
theorem done_tick {p : Ps} {c : Int} (hW : Wf p) (hcode : p.code = 0) (hrun : p.item < (p.plan.size : Int)) (hc : 0 ≤ c ∧ c < 256) (h : (tk p c).1 = true) (hn : ¬ 0 < (tick p c).need) : Done (tick p c) := by
  obtain ⟨w1, w2, w3, w4, w5, w6, w7, w8⟩ := hW
  rcases w8 with ⟨hs, a1, a2, a3⟩ | ⟨hs, a⟩ | ⟨hs, a⟩
  · have hno := (tk_head hs h).2
    rw [tick_head hs h] at hn ⊢
    obtain ⟨o1, o2⟩ := orNum_add p.num c p.need a2 a3 hc.1 hc.2 w6 a1
    have hp : (0 : Int) ≤ 256 ^ (8 - p.need).toNat := Int.pow_nonneg (by omega)
    refine ⟨fun h105 => ?_, .inl hs⟩
    have h1 : p.need = 1 := by simp only at hn; omega
    obtain ⟨k, hk⟩ := Int.eq_ofNat_of_zero_le w5.1
    have h116 : bt p.plan p.item = 116 := by
      rcases w7 hcode k (by omega) with q | q
      · exact absurd (by rw [hk]; exact q) h105
      · rw [hk]; exact q
    have hle : orNum p.num c p.need ≤ p.most := by
      by_cases q : p.most < orNum p.num c p.need
      · exact absurd ⟨h1, h116, q⟩ hno
      · omega
    have := Int.mul_nonneg hc.1 hp
    simp only
    omega
  · rw [tick_text hs]
    exact ⟨fun _ => ⟨a.2.1, a.2.2.1⟩, .inr (.inl hs)⟩
  · rw [tick_pad hs h]
    exact ⟨fun _ => ⟨a.2.1, a.2.2.1⟩, .inr (.inr hs)⟩
theorem tick_same {p : Ps} {c : Int} (hW : Wf p) (h : (tk p c).1 = true) : (tick p c).plan = p.plan ∧ (tick p c).item = p.item ∧ (tick p c).code = p.code ∧ (tick p c).most = p.most ∧ (tick p c).taken = p.taken + 1 ∧ ((tick p c).text.length : Int) ≤ (tick p c).taken ∧ (tick p c).shut = p.shut := by
  have w3 := hW.len
  rcases hW.phase with ⟨hs, a⟩ | ⟨hs, a⟩ | ⟨hs, a⟩
  · rw [tick_head hs h]; exact ⟨rfl, rfl, rfl, rfl, rfl, by simp only; omega, rfl⟩
  · rw [tick_text hs]; exact ⟨rfl, rfl, rfl, rfl, rfl, by simp only [List.length_append, List.length_cons, List.length_nil]; omega, rfl⟩
  · rw [tick_pad hs h]; exact ⟨rfl, rfl, rfl, rfl, rfl, by simp only; omega, rfl⟩
theorem wf_nx {p : Ps} {c : Int} (hW : Wf p) (hrun : p.item < (p.plan.size : Int)) (h : (tk p c).1 = true) (hD : Done (tick p c)) : Wf (nx (tick p c)).2 := by
  obtain ⟨e1, e2, e3, e4, e5, e6, e7⟩ := tick_same hW h
  obtain ⟨w1, w2, w3, w4, w5, w6, w7, w8⟩ := hW
  generalize tick p c = q at *
  have hnext : Wf q.next := by
    refine ⟨by rw [← e4] at w1; exact w1, by show 0 ≤ q.taken; omega, by show (([] : List Int).length : Int) ≤ q.taken; simp; omega, by rw [← e1] at w4; exact w4, ?_, by show (1 : Int) ≤ 8; omega, ?_, .inl ⟨rfl, by show (8 : Int) ≤ 8; omega, by show (0 : Int) ≤ 0; omega, by show (0 : Int) < 256 ^ (8 - 8 : Int).toNat; decide⟩⟩
    · show 0 ≤ q.item + 1 ∧ q.item + 1 ≤ (q.plan.size : Int)
      rw [e1, e2]; omega
    · show q.code = 0 → ∀ k : Nat, k < q.plan.size → bt q.plan (k : Int) = 105 ∨ bt q.plan (k : Int) = 116
      rw [e1, e3]; exact w7
  unfold nx
  split
  · exact hnext
  · rename_i h105
    have hnum := hD.num h105
    split
    · rename_i hq
      refine ⟨by show 0 ≤ q.most ∧ q.most ≤ _; rw [e4]; exact w1, by show 0 ≤ q.taken; omega, e6, by show q.plan.size ≤ _; rw [e1]; exact w4, by show 0 ≤ q.item ∧ q.item ≤ (q.plan.size : Int); rw [e1, e2]; exact w5, by show 1 ≤ q.num; omega, by show q.code = 0 → ∀ k : Nat, k < q.plan.size → bt q.plan (k : Int) = 105 ∨ bt q.plan (k : Int) = 116; rw [e1, e3]; exact w7, .inr (.inl ⟨rfl, by show q.num ≤ _; omega, hnum.1, hnum.2, by show q.item < (q.plan.size : Int); rw [e1, e2]; exact hrun, h105⟩)⟩
    · split
      · rename_i hq
        have hm : 0 < q.num % 8 := by have := hq.2; omega
        refine ⟨by show 0 ≤ q.most ∧ q.most ≤ _; rw [e4]; exact w1, by show 0 ≤ q.taken; omega, e6, by show q.plan.size ≤ _; rw [e1]; exact w4, by show 0 ≤ q.item ∧ q.item ≤ (q.plan.size : Int); rw [e1, e2]; exact w5, by show 1 ≤ 8 - q.num % 8; omega, by show q.code = 0 → ∀ k : Nat, k < q.plan.size → bt q.plan (k : Int) = 105 ∨ bt q.plan (k : Int) = 116; rw [e1, e3]; exact w7, .inr (.inr ⟨rfl, by show 8 - q.num % 8 ≤ 7; omega, hnum.1, hnum.2, by show q.item < (q.plan.size : Int); rw [e1, e2]; exact hrun, h105⟩)⟩
      · exact hnext
theorem nx_taken (q : Ps) : (nx q).2.taken = q.taken := by
  unfold nx
  split
  · rfl
  · split
    · rfl
    · split
      · rfl
      · rfl
end Go.Proofs.Ytnilogameaaooaa.Rdr
/- wire.Reader.Feed, walked by hand. -/
namespace Go.Proofs.Ytnilogameaaooaa.Rdr
open Go.RowKit Go.Proofs.Ytnilogameaaooaa.Q Go.Proofs.YtnilogameaaooaaW.PrintWords Go.Proofs.YtnilogameaaooaaW.PrintLast Go.Proofs.YtnilogameaaooaaW.PrintMore Go.Proofs.Ytnilogameaaooaa.Bytes
set_option linter.unusedVariables false
set_option linter.unusedSimpArgs false

section
variable {ok : Nat → Prop} {b base : Nat} {w w1 : World}
theorem rep_grown {p : Ps} (h : Rep p w b base ok) {row : Option Nat} (hg : w.grownBy w1 row) (hr : ∀ k, row = some k → k ≠ b ∧ ¬ ∃ cs, w.heap[k]? = some (.cells cs 5 (0, 0))) : Rep p w1 b base ok := by
  obtain ⟨v, hA, hO⟩ := h
  refine ⟨v, (hg.block b hA.lt (fun e => (hr b e.symm).1 rfl)).trans hA, Kd.R_mono (Kd.R_move (Kd.R_bound hO) ?_) (fun _ hk => hk.1)⟩
  rintro k ⟨_, _, hk, q, hq, cells, hc⟩
  refine hg.block k hk (fun e => (hr k e.symm).2 ⟨cells, ?_⟩)
  have hq' : q = 5 := by
    rcases List.mem_cons.1 hq with e | e
    · exact e
    · exact absurd e (by simp [Kd.int, Kd.scalar])
  rw [hc, hq']
theorem rep_alloc {p : Ps} (h : Rep p w b base ok) (o : Obj) : Rep p (w.alloc o) b base ok := rep_grown h (World.grownBy_alloc w o none) (fun k hk => by cases hk)
theorem rep_drewN {p : Ps} (h : Rep p w b base ok) (n : Nat) : Rep p (w.drewN n) b base ok := by
  obtain ⟨v, hA, hO⟩ := h
  exact ⟨v, hA, Kd.R_drewN hO n⟩
theorem rep_drew {p : Ps} (h : Rep p w b base ok) : Rep p w.drew b base ok := by
  obtain ⟨v, hA, hO⟩ := h
  exact ⟨v, hA, Kd.R_drewN hO 1⟩
theorem rep_set {p q : Ps} (h : Rep p w b base ok) (hb : ¬ ok b) (i : Nat) (u : Value) (e : ∀ v, (q.rd v).cells = (p.rd v).cells.setIfInBounds i u) (ht : q.text = p.text) : Rep q (w.setCell ⟨b, i, none⟩ u) b base ok := by
  obtain ⟨v, hA, hO⟩ := h
  exact rep_turned (p := p) hO hb ((Turned.refl hA).set i u (r' := q.rd v) (e v)) rfl ht
end
theorem size_alloc (w : World) (o : Obj) : (w.alloc o).heap.size = w.heap.size + 1 := by simp [World.alloc, -World.alloc_eq]
theorem feed_stop {p : Ps} (h : p.stopped = true) : ∀ cs, feed p cs = (p, [])
  | [] => rfl
  | c :: cs => by simp only [feed]; rw [if_pos h]
theorem feed_trail {p : Ps} (h : ¬ p.stopped = true) (hi : p.item = (p.plan.size : Int)) (c : Int) (cs : List Int) : feed p (c :: cs) = ({ p with code := 5, place := p.taken }, []) := by simp only [feed]; rw [if_neg h, if_pos hi]
theorem feed_bad {p : Ps} (h : ¬ p.stopped = true) (hi : ¬ p.item = (p.plan.size : Int)) {c : Int} (ht : ¬ (tk p c).1 = true) (cs : List Int) : feed p (c :: cs) = ((tk p c).2, []) := by simp only [feed]; rw [if_neg h, if_neg hi, if_neg ht]
theorem feed_more {p : Ps} (h : ¬ p.stopped = true) (hi : ¬ p.item = (p.plan.size : Int)) {c : Int} (ht : (tk p c).1 = true) (hn : 0 < (tick p c).need) (cs : List Int) : feed p (c :: cs) = feed (tick p c) cs := by
  simp only [feed]; rw [if_neg h, if_neg hi, if_pos ht]
  exact if_pos hn
theorem feed_next {p : Ps} (h : ¬ p.stopped = true) (hi : ¬ p.item = (p.plan.size : Int)) {c : Int} (ht : (tk p c).1 = true) (hn : ¬ 0 < (tick p c).need) (cs : List Int) : feed p (c :: cs) = ((feed (nx (tick p c)).2 cs).1, (nx (tick p c)).1.toList ++ (feed (nx (tick p c)).2 cs).2) := by
  simp only [feed]; rw [if_neg h, if_neg hi, if_pos ht]
  exact if_neg hn
set_option maxHeartbeats 8000000 in
set_option maxRecDepth 100000 in
theorem feed_calls (p : Ps) (w : World) (b base : Nat) (ok : Nat → Prop) (hR : Rep p w b base ok) (hW : p.stopped = true ∨ Wf p) (hb : ¬ ok b) (hok : ∀ k, w.heap.size ≤ k → ok k) (hbase : base ≤ w.heap.size)
    (A : Option Addr) (n c : Nat) (cs : List Int) (hC : ReadsInt w .u8 A n cs) (hnc : n ≤ c) (hA : ∀ ad, A = some ad → ad.block ≠ b ∧ ad.block < w.heap.size ∧ ¬ ok ad.block) (hcs : ∀ x ∈ cs, 0 ≤ x ∧ x < 256) (hsz : p.taken + (n : Int) ≤ 1099511627776) (ht0 : 0 ≤ p.taken) :
    Calls Try.prog 28 #[.pointer (some ⟨b, 0, none⟩), .slice A n c] w fun e w' => ∃ v, e = .returned v ∧ Kd.R k55 55 w' w.heap.size (fun _ => True) v (feed p cs).2 ∧ Rep (feed p cs).1 w' b base ok ∧ Frame ok b w w' := by
  have HR := Aside0.mk hR
  have HA := Aside0.mk hA
  have HC := Aside0.mk hC
  have HS := Aside0.mk hcs
  have hn : cs.length = n := hC.1
  have HW := Aside0.mk hW
  have HK := Aside0.mk hok
  have hnn : 0 ≤ n := Nat.zero_le n
  have hN : n ≤ 1099511627776 := by omega
  clear hR hA hC hcs hW hok hn
  go_enter Try.func28, Try.ntmps28
  go_wp2
  repeat (go_step3; go_wp2)
  go_loopg [5, 12] n (fun g v5 v12 wx => ∃ (i : Nat) (q : Ps) (its : List S55), i + g = n ∧ v12 = .int .i64 (i : Int) ∧ Aside0 (Rep q wx b base ok) ∧ Aside0 (q.stopped = true ∨ Wf q) ∧ Aside0 (Frame ok b w wx) ∧ Aside0 (Kd.R k55 55 wx w.heap.size (fun _ => True) v5 its) ∧ Aside0 (feed p cs = ((feed q (cs.drop i)).1, its ++ (feed q (cs.drop i)).2)) ∧ Aside0 (0 ≤ q.taken ∧ q.taken + ((n - i : Nat) : Int) ≤ 1099511627776) ∧ Aside0 (its.length ≤ i))
  case atStart => exact ⟨0, p, [], by omega, rfl, ⟨HR.out⟩, ⟨HW.out⟩, ⟨Frame.refl _ _ _⟩, ⟨Kd.R_nil _ _ _ _ _⟩, ⟨by simp⟩, ⟨by omega⟩, ⟨Nat.le_refl _⟩⟩
  case round =>
    obtain ⟨i, q, its, hig, rfl, HR1, HW1, HF1, HO1, HE1, HT1, HL1⟩ := hrel
    cases gk with
    | zero =>
      obtain rfl : i = n := by omega
      have HE2 : feed p cs = (q, its) := by
        have := HE1.out
        rw [List.drop_of_length_le (by have := HC.out.1; omega)] at this
        simpa [feed] using this
      replace HE2 := Aside0.mk HE2
      clear HE1
      go_wp2
      rw [Exit.noGoto_ret]
      go_ret
      exact ⟨_, rfl, by rw [HE2.out]; exact HO1.out, by rw [HE2.out]; exact HR1.out, HF1.out⟩
    | succ g =>
      have hi : i < n := by omega
      obtain ⟨ad, rfl, hcell⟩ := HC.out.at_ (i : Int) (by omega) (by omega)
      obtain ⟨hb1, hb2, hb3⟩ := HA.out ad rfl
      have hlen := HC.out.1
      have hxd : cs.drop i = rd cs (i : Int) :: cs.drop (i + 1) := by
        rw [List.drop_eq_getElem_cons (by omega)]
        congr 1
        simp [rd, List.getD_eq_getElem?_getD, List.getElem?_eq_getElem (show i < cs.length by omega)]
      have hxr : 0 ≤ rd cs (i : Int) ∧ rd cs (i : Int) < 256 := by
        have hm : rd cs (i : Int) ∈ cs := List.mem_of_mem_drop (by rw [hxd]; exact List.mem_cons_self)
        exact HS.out _ hm
      rw [Int.toNat_natCast] at hcell
      have hcw : wr.cell? (ad.add i) = some (.int .u8 (rd cs (i : Int))) := by
        rw [← hcell]
        refine World.cell?_of_block ?_
        have hab : (ad.add i).block = ad.block := by unfold Addr.add; split <;> rfl
        rw [hab]
        exact HF1.out.block _ hb2 hb1 (.inl hb3)
      generalize rd cs (i : Int) = x at hxd hxr hcw
      have HE2 := HE1.out
      rw [hxd] at HE2
      replace HE2 := Aside0.mk HE2
      have HXR := Aside0.mk hxr
      clear hxd hxr hcell hb1 hb2 hb3 hlen HE1
      by_cases hst : q.stopped = true
      · have HE3 : feed p cs = (q, its) := by
          have := HE2.out
          rw [feed_stop hst] at this
          simpa using this
        replace HE3 := Aside0.mk HE3
        obtain ⟨v, hA1, hO1⟩ := HR1.out
        have HS1 := Aside0.mk (show ((q.rd v).shut || (q.rd v).code != 0) = true from hst)
        have HA1 := Aside0.mk hA1
        clear hst hA1 hO1
        go_wp2_with (go_at_call 38; refine (stopped_calls (q.rd v) _ b HA1.out).mono ?_; rintro e w1 ⟨rfl, hw⟩; rw [hw, HS1.out]; clear hw)
        rw [Exit.noGoto_ret]
        go_ret
        exact ⟨_, rfl, by rw [HE3.out]; exact HO1.out, by rw [HE3.out]; exact HR1.out, HF1.out⟩
      · have hW2 : Wf q := HW1.out.resolve_left hst
        have hcode : q.code = 0 := by
          have : ¬ (q.shut || q.code != 0) = true := hst
          simp only [Bool.or_eq_true, bne_iff_ne, ne_eq, not_or, Decidable.not_not] at this
          exact this.2
        by_cases hit : q.item = (q.plan.size : Int)
        · have HE3 : feed p cs = ({ q with code := 5, place := q.taken }, its) := by
            have := HE2.out
            rw [feed_trail hst hit] at this
            simpa using this
          replace HE3 := Aside0.mk HE3
          obtain ⟨v, hA1, hO1⟩ := HR1.out
          have HS1 := Aside0.mk (show ((q.rd v).shut || (q.rd v).code != 0) = false from Bool.eq_false_iff.2 hst)
          have HO2 := Aside0.mk hO1
          have heq : (q.item == (q.plan.size : Int)) = true := beq_iff_eq.2 hit
          have c0 := hA1.c0
          have c4 := hA1.c4
          have c6 := hA1.c6
          simp only [Ps.rd] at c0 c4 c6
          have HA1 := Aside0.mk hA1
          clear hst hA1 hO1 hit hW2 hcode
          go_wp2_with (go_at_call 38; refine (stopped_calls (q.rd v) _ b HA1.out).mono ?_; rintro e w1 ⟨rfl, hw⟩; rw [hw, HS1.out]; clear hw)
          go_quiet (fail)
          go_wp2
          have H4 := (Turned.refl HA1.out).drewN nq
          clear c0 c4 c6
          generalize World.drewN wr nq = w4 at H4 ⊢
          refine wp_region_still_tail 8 (by kernel_rfl) (by kernel_rfl) ?_
          change wpStill _ _ (World.drew w4) (fun a' => wpList _ _ _ _ a' (World.drew w4)) _ _
          have H5 := Turned.drew1 H4
          generalize World.drew w4 = w5 at H5 ⊢
          have c0 := H5.1.c0
          simp only [Ps.rd] at c0
          replace H5 := Aside0.mk H5
          simp only [List.take_succ_cons, List.take_zero, List.drop_succ_cons, List.drop_zero]
          repeat still_step
          refine wpStill_nil ?_
          change wpList _ _ _ _ _ w5
          go_wp2_with (go_at_call 37; refine (fail_calls (q.rd v) _ b H5.out.1 5 q.taken).mono ?_; rintro e w6 ⟨rfl, hT, hsz6⟩)
          rw [Exit.noGoto_ret]
          go_ret
          have hT2 := H5.out.trans hT
          exact ⟨_, rfl, by rw [HE3.out]; exact (Frame.turned (ok := ok) hT2).out HA1.out HO1.out, by rw [HE3.out]; exact rep_turned HO2.out hb hT2 rfl rfl, HF1.out.trans (Frame.turned hT2)⟩
        · have hrun : q.item < (q.plan.size : Int) := by have := hW2.item; omega
          have hlt := HT1.out
          have htl := hW2.len
          have HTL := Aside0.mk (show q.text.length + 1 ≤ 140737488355328 by omega)
          obtain ⟨v, hA1, hO1⟩ := HR1.out
          have HS1 := Aside0.mk (show ((q.rd v).shut || (q.rd v).code != 0) = false from Bool.eq_false_iff.2 hst)
          have heq : (q.item == (q.plan.size : Int)) = false := beq_eq_false_iff_ne.2 hit
          have HST := Aside0.mk hst
          have HIT := Aside0.mk hit
          have HRUN := Aside0.mk hrun
          have HW3 := Aside0.mk hW2
          have HCD := Aside0.mk hcode
          have HO2 := Aside0.mk hO1
          have hws := HF1.out.size
          have c4 := hA1.c4
          have c6 := hA1.c6
          simp only [Ps.rd] at c4 c6
          have HA1 := Aside0.mk hA1
          clear hst hA1 hO1 hit hW2 hcode htl hlt hrun
          by_cases htk : (tk q x).1 = true
          case neg =>
            have HE3 : feed p cs = ((tk q x).2, its) := by
              have := HE2.out
              rw [feed_bad HST.out HIT.out htk] at this
              simpa using this
            replace HE3 := Aside0.mk HE3
            have HTK := Aside0.mk (Bool.eq_false_iff.2 htk)
            clear htk
            go_wp2_with (go_at_call 38; refine (stopped_calls (q.rd v) _ b HA1.out).mono ?_; rintro e w1 ⟨rfl, hw⟩; rw [hw, HS1.out]; clear hw)
            go_quiet (fail)
            go_wp2_with (go_at_call 39; refine (take_ps q _ b base ok (rep_drewN HR1.out _) HW3.out HRUN.out x HXR.out (fun k hk => HK.out k (Nat.le_trans hws hk)) hb (Nat.le_trans hbase hws) HTL.out).mono ?_; rintro e w2 ⟨rfl, hR2, hF2⟩; rw [HTK.out])
            rw [Exit.noGoto_ret]
            go_ret
            have hF3 : Frame ok b wr w2 := Frame.trans (Frame.turned ((Turned.refl HA1.out).drewN nq)) hF2
            exact ⟨_, rfl, by rw [HE3.out]; exact hF3.out HA1.out HO1.out, by rw [HE3.out]; exact hR2, HF1.out.trans hF3⟩
          case pos =>
            have HTK := Aside0.mk htk
            obtain ⟨s1, s2, s3, s4, s5, s6, s7⟩ := tick_same HW3.out htk
            have hlt := HT1.out
            have htt : (tk q x).2.taken + 1 = q.taken + 1 := s5
            have ht3 : 0 ≤ (tk q x).2.taken := by omega
            have ht4 : (tk q x).2.taken ≤ 1099511627776 := by omega
            have hne1 : (tick q x).need = (tk q x).2.need := rfl
            by_cases hmore : 0 < (tick q x).need
            · have hd : decide (0 < (tk q x).2.need) = true := decide_eq_true hmore
              have HE3 : feed p cs = ((feed (tick q x) (cs.drop (i + 1))).1, its ++ (feed (tick q x) (cs.drop (i + 1))).2) := by
                have := HE2.out
                rw [feed_more HST.out HIT.out htk hmore] at this
                exact this
              have HW4 := Aside0.mk (wf_tick HW3.out HXR.out htk hmore)
              have HTT := Aside0.mk (show 0 ≤ (tick q x).taken ∧ (tick q x).taken + ((n - (i + 1) : Nat) : Int) ≤ 1099511627776 by omega)
              replace HE3 := Aside0.mk HE3
              clear htk s1 s2 s3 s4 s5 s6 s7 hlt htt hne1 hmore
              go_wp2_with (go_at_call 38; refine (stopped_calls (q.rd v) _ b HA1.out).mono ?_; rintro e w1 ⟨rfl, hw⟩; rw [hw, HS1.out]; clear hw)
              go_quiet (fail)
              go_wp2_with (go_at_call 39; refine (take_ps q _ b base ok (rep_drewN HR1.out _) HW3.out HRUN.out x HXR.out (fun k hk => HK.out k (Nat.le_trans hws hk)) hb (Nat.le_trans hbase hws) HTL.out).mono ?_; rintro e w2 ⟨rfl, hR2, hF2⟩; rw [HTK.out]; obtain ⟨v2, hA2, hO3⟩ := hR2; have d0 := hA2.c0; have d10 := hA2.c10; have e0 := hA2.fro 0; simp only [Ps.rd] at d0 d10; have HA2 := Aside0.mk hA2; have HO3 := Aside0.mk hO3; clear hA2 hO3)
              have hF3 : Frame ok b wr w2 := Frame.trans (Frame.turned ((Turned.refl HA1.out).drewN nq)) hF2
              have hT3 : Turned w2 (w2.setCell ⟨b, 0, none⟩ (.int .i64 ((tk q x).2.taken + 1))) b ((tick q x).rd v2) := (Turned.refl HA2.out).set 0 _ rfl
              have HF4 := Aside0.mk (hF3.trans (Frame.turned hT3))
              have HR4 := Aside0.mk (rep_turned (q := tick q x) HO3.out hb hT3 rfl rfl)
              clear hF2 hF3 hT3
              go_roundg g
              case measure => omega
              case rel => exact ⟨i + 1, tick q x, its, by omega, by go_num, ⟨HR4.out⟩, ⟨.inr HW4.out⟩, ⟨HF1.out.trans HF4.out⟩, ⟨HF4.out.out HA1.out HO1.out⟩, ⟨HE3.out⟩, ⟨HTT.out⟩, ⟨Nat.le_succ_of_le HL1.out⟩⟩
            · skip
              have hdn := done_tick HW3.out HCD.out HRUN.out HXR.out htk hmore
              have HDN := Aside0.mk hdn
              have HW4 := Aside0.mk (wf_nx HW3.out HRUN.out htk hdn)
              have hi0 := HW3.out.item.1
              have hpl := HW3.out.plan
              have HIB := Aside0.mk (show 0 ≤ (tick q x).item ∧ (tick q x).item < ((tick q x).plan.size : Int) ∧ (tick q x).plan.size ≤ 140737488355328 by rw [s1, s2]; exact ⟨hi0, HRUN.out, hpl⟩)
              have hnt := nx_taken (tick q x)
              have HTT := Aside0.mk (show 0 ≤ (nx (tick q x)).2.taken ∧ (nx (tick q x)).2.taken + ((n - (i + 1) : Nat) : Int) ≤ 1099511627776 by rw [hnt]; omega)
              have hfn := HE2.out
              rw [feed_next HST.out HIT.out htk hmore] at hfn
              have hd : decide (0 < (tk q x).2.need) = false := decide_eq_false hmore
              cases hnx : (nx (tick q x)).1 with
              | none =>
                have HN1 := Aside0.mk (show (nx (tick q x)).1.isSome = false by rw [hnx]; rfl)
                have HN2 := Aside0.mk (show itemOf (nx (tick q x)).1 = ⟨false, 0, ⟨#[]⟩⟩ by rw [hnx]; rfl)
                rw [hnx] at hfn
                have HE3 := Aside0.mk (show feed p cs = ((feed (nx (tick q x)).2 (cs.drop (i + 1))).1, its ++ (feed (nx (tick q x)).2 (cs.drop (i + 1))).2) by rw [hfn]; rfl)
                clear htk s1 s2 s3 s4 s5 s6 s7 hlt htt hne1 hmore hdn hi0 hpl hnt hfn hnx
                go_wp2_with (go_at_call 38; refine (stopped_calls (q.rd v) _ b HA1.out).mono ?_; rintro e w1 ⟨rfl, hw⟩; rw [hw, HS1.out]; clear hw)
                go_quiet (fail)
                go_wp2_with (first | (go_at_call 39; refine (take_ps q _ b base ok (rep_drewN HR1.out _) HW3.out HRUN.out x HXR.out (fun k hk => HK.out k (Nat.le_trans hws hk)) hb (Nat.le_trans hbase hws) HTL.out).mono ?_; rintro e w2 ⟨rfl, hR2, hF2⟩; rw [HTK.out]; obtain ⟨v2, hA2, hO3⟩ := hR2; have d0 := hA2.c0; have d10 := hA2.c10; have e0 := hA2.fro 0; simp only [Ps.rd] at d0 d10; have hF3 : Frame ok b wr w2 := Frame.trans (Frame.turned ((Turned.refl HA1.out).drewN nq)) hF2; have hT3 : Turned w2 (w2.setCell ⟨b, 0, none⟩ (.int .i64 ((tk q x).2.taken + 1))) b ((tick q x).rd v2) := (Turned.refl hA2).set 0 _ rfl; have HF4 := Aside0.mk (hF3.trans (Frame.turned hT3)); have HR4 := Aside0.mk (rep_turned (q := tick q x) hO3 hb hT3 rfl rfl); clear hF2 hF3 hT3 hA2 hO3) | (go_at_call 40; refine (next_ps (tick q x) _ b base ok HR4.out HIB.out.1 HIB.out.2.1 HIB.out.2.2 hb HDN.out.num HDN.out.state).mono ?_; rintro e w3 ⟨rfl, hR5, hF5⟩; rw [HN1.out, HN2.out]; have HR5 := Aside0.mk hR5; have HF6 := Aside0.mk (HF4.out.trans hF5); clear hR5 hF5))
                go_roundg g
                case measure => omega
                case rel => exact ⟨i + 1, (nx (tick q x)).2, its, by omega, by go_num, ⟨rep_alloc HR5.out _⟩, ⟨.inr HW4.out⟩, ⟨(HF1.out.trans HF6.out).grown (World.grownBy_alloc _ _ none) (fun k hk => by cases hk)⟩, ⟨Kd.R_alloc (HF6.out.out HA1.out HO1.out) _⟩, ⟨HE3.out⟩, ⟨HTT.out⟩, ⟨Nat.le_succ_of_le HL1.out⟩⟩
              | some it =>
                have HN1 := Aside0.mk (show (nx (tick q x)).1.isSome = true by rw [hnx]; rfl)
                have HN2 := Aside0.mk (show itemOf (nx (tick q x)).1 = it by rw [hnx]; rfl)
                rw [hnx] at hfn
                have HE3 := Aside0.mk (show feed p cs = ((feed (nx (tick q x)).2 (cs.drop (i + 1))).1, (its ++ [it]) ++ (feed (nx (tick q x)).2 (cs.drop (i + 1))).2) by rw [hfn, List.append_assoc]; rfl)
                clear htk s1 s2 s3 s4 s5 s6 s7 hlt htt hne1 hmore hdn hi0 hpl hnt hfn hnx
                go_wp2_with (go_at_call 38; refine (stopped_calls (q.rd v) _ b HA1.out).mono ?_; rintro e w1 ⟨rfl, hw⟩; rw [hw, HS1.out]; clear hw)
                go_quiet (fail)
                go_wp2_with (first | (go_at_call 39; refine (take_ps q _ b base ok (rep_drewN HR1.out _) HW3.out HRUN.out x HXR.out (fun k hk => HK.out k (Nat.le_trans hws hk)) hb (Nat.le_trans hbase hws) HTL.out).mono ?_; rintro e w2 ⟨rfl, hR2, hF2⟩; rw [HTK.out]; obtain ⟨v2, hA2, hO3⟩ := hR2; have d0 := hA2.c0; have d10 := hA2.c10; have e0 := hA2.fro 0; simp only [Ps.rd] at d0 d10; have hF3 : Frame ok b wr w2 := Frame.trans (Frame.turned ((Turned.refl HA1.out).drewN nq)) hF2; have hT3 : Turned w2 (w2.setCell ⟨b, 0, none⟩ (.int .i64 ((tk q x).2.taken + 1))) b ((tick q x).rd v2) := (Turned.refl hA2).set 0 _ rfl; have HF4 := Aside0.mk (hF3.trans (Frame.turned hT3)); have HR4 := Aside0.mk (rep_turned (q := tick q x) hO3 hb hT3 rfl rfl); clear hF2 hF3 hT3 hA2 hO3) | (go_at_call 40; refine (next_ps (tick q x) _ b base ok HR4.out HIB.out.1 HIB.out.2.1 HIB.out.2.2 hb HDN.out.num HDN.out.state).mono ?_; rintro e w3 ⟨rfl, hR5, hF5⟩; rw [HN1.out, HN2.out]; have HR5 := Aside0.mk hR5; have HF6 := Aside0.mk (HF4.out.trans hF5); clear hR5 hF5) | ((with_reducible refine gate_builtin (b := .append) (xs := #[.tmp 65, .tmp 67]) rfl ?_); at_builtin; refine Kd.R_append k55 (w0 := w3.alloc (.cells #[.bool it.f0, .int .u64 it.f1, .string it.f2] 55)) w.heap.size rfl (.tmp 65) (.tmp 67) 28 55 (.agg #[.bool false, .int .u64 0, .string ⟨#[]⟩]) 32 rfl Try.underlying28 rfl rfl (by decide) (by omega) u5 its it [.bool it.f0, .int .u64 it.f1, .string it.f2] (fun _ => True) (fun _ => False) rfl (by rw [size_alloc]; rfl) (k55_mkM _ _ _ it) (fun _ hk => hk.elim) (fun _ _ => trivial) (Kd.R_alloc (HF6.out.out HA1.out HO1.out) _) (Below.refl _ _) (by have h1 := HF6.out.size; have h2 := size_alloc w3 (.cells #[.bool it.f0, .int .u64 it.f1, .string it.f2] 55); omega) (by have := HL1.out; omega) ?_; intro v1 w5 ho5 hb5 hg5 hat5))
                have HOX := Kd.R_alloc (HF6.out.out HA1.out HO1.out) (.cells #[.bool it.f0, .int .u64 it.f1, .string it.f2] 55)
                have HRX := rep_alloc HR5.out (.cells #[.bool it.f0, .int .u64 it.f1, .string it.f2] 55)
                have hrow : ∀ k, u5.ownBlock = some k → k ≠ b ∧ ¬ ∃ cs, (w3.alloc (.cells #[.bool it.f0, .int .u64 it.f1, .string it.f2] 55)).heap[k]? = some (.cells cs 5 (0, 0)) := by
                  intro k hk
                  obtain ⟨inner, ho, _⟩ := HOX.2
                  obtain ⟨cells, hc⟩ := own_typed ho k hk
                  obtain ⟨vx, hAx, _⟩ := HRX
                  unfold Rd.At at hAx
                  refine ⟨?_, ?_⟩
                  · rintro rfl
                    rw [hc] at hAx
                    simp at hAx
                  · rintro ⟨cs2, hcs2⟩
                    rw [hc] at hcs2
                    simp at hcs2
                have hfr : Frame ok b w w5 := ((HF1.out.trans HF6.out).grown (World.grownBy_alloc _ _ none) (fun k hk => by cases hk)).grown hg5 (fun k hk => by
                  obtain ⟨inner, ho, _⟩ := HOX.2
                  exact .inr (own_base ho k hk))
                go_roundg g
                case measure => omega
                case rel => exact ⟨i + 1, (nx (tick q x)).2, its ++ [it], by omega, by go_num, ⟨rep_grown HRX hg5 hrow⟩, ⟨.inr HW4.out⟩, ⟨hfr⟩, ⟨ho5⟩, ⟨HE3.out⟩, ⟨HTT.out⟩, ⟨by rw [List.length_append]; have := HL1.out; simp; omega⟩⟩
end Go.Proofs.Ytnilogameaaooaa.Rdr
/- wire.Reader.Close, walked by hand. -/
namespace Go.Proofs.Ytnilogameaaooaa.Rdr
open Go.RowKit Go.Proofs.Ytnilogameaaooaa.Q Go.Proofs.YtnilogameaaooaaW.PrintWords Go.Proofs.YtnilogameaaooaaW.PrintLast Go.Proofs.YtnilogameaaooaaW.PrintMore Go.Proofs.Ytnilogameaaooaa.Bytes
set_option linter.unusedVariables false
set_option linter.unusedSimpArgs false

theorem set2 {w1 : World} {g : Nat} {a0 a1 x0 x1 : Value} {t : TypeId} (h : w1.heap[g]? = some (.cells #[a0, a1] t (0, 0))) :
    ((w1.setCell ⟨g, 0, none⟩ x0).setCell ⟨g, 1, none⟩ x1).heap[g]? = some (.cells #[x0, x1] t (0, 0)) := by
  simp [World.setCell, Array.getElem?_modify, h]
theorem stopped_val (r : Rd) (w : World) (b : Nat) (h : r.At w b) {x : Bool} (hx : (r.shut || r.code != 0) = x) :
    Calls Try.prog 38 #[.pointer (some ⟨b, 0, none⟩)] w fun e w' => e = .returned (.bool x) ∧ w' = w := by
  subst hx
  exact stopped_calls r w b h
set_option maxHeartbeats 4000000 in
set_option maxRecDepth 100000 in
theorem close_still (r : Rd) (w : World) (b : Nat) (h : r.At w b) (hs : (r.shut || r.code != 0) = true ∨ ((r.shut || r.code != 0) = false ∧ ¬ r.item < (r.plan.size : Int))) :
    Calls Try.prog 29 #[.pointer (some ⟨b, 0, none⟩)] w fun e w' => e = .returned (.agg #[.int .i64 r.code, .int .i64 r.place]) ∧ Turned w w' b { r with shut := true } := by
  have H := Aside0.mk h
  obtain ⟨taken, code, place, shut, plan, most, item, start, state, num, need, v⟩ := r
  simp only at hs
  have hlt := h.lt
  have hlt1 : b < w.heap.size + 1 := by omega
  have hne : (w.heap.size = b) = False := eq_false (by omega)
  have hne' : (b = w.heap.size) = False := eq_false (by omega)
  have c1 := h.c1
  have c2 := h.c2
  have c3 := h.c3
  have c4 := h.c4
  have c6 := h.c6
  have f3 := h.fro 3
  simp only at c1 c2 c3 c4 c6
  clear h
  rcases hs with hs | ⟨hs, hi⟩
  · have HS := Aside0.mk hs
    clear hs
    go_enter Try.func29, Try.ntmps29
    go_wp2
    go_quiet ((go_at_call 38; exact Calls.quiet_of_same (stopped_val ⟨taken, code, place, shut, plan, most, item, start, state, num, need, v⟩ _ b (alloc_at H.out _ _) HS.out)))
    go_wp2
    refine bodyPost_ret (results_c rfl _ _ w.heap.size 31 _ (0, 0) _ rfl (set2 (keep_set (heap_alloc_new w (.cells #[.int .i64 0, .int .i64 0] 31)) (by omega))) Try.underlying31 rfl rfl) rfl ⟨rfl, ?_⟩
    exact (((Turned.at_alloc H.out _ nq).set 3 (.bool true) (r' := ⟨taken, code, place, true, plan, most, item, start, state, num, need, v⟩) rfl).other (Nat.le_refl _) hlt _ _).other (Nat.le_refl _) hlt _ _
  · have hi' : decide (item < (plan.size : Int)) = false := decide_eq_false hi
    have HS := Aside0.mk hs
    clear hs hi
    go_enter Try.func29, Try.ntmps29
    go_wp2
    go_quiet ((go_at_call 38; exact Calls.quiet_of_same (stopped_val ⟨taken, code, place, shut, plan, most, item, start, state, num, need, v⟩ _ b (alloc_at H.out _ _) HS.out)))
    go_wp2
    refine bodyPost_ret (results_c rfl _ _ w.heap.size 31 _ (0, 0) _ rfl (set2 (keep_set (heap_alloc_new w (.cells #[.int .i64 0, .int .i64 0] 31)) (by omega))) Try.underlying31 rfl rfl) rfl ⟨rfl, ?_⟩
    exact (((Turned.at_alloc H.out _ nq).set 3 (.bool true) (r' := ⟨taken, code, place, true, plan, most, item, start, state, num, need, v⟩) rfl).other (Nat.le_refl _) hlt _ _).other (Nat.le_refl _) hlt _ _
set_option maxHeartbeats 4000000 in
set_option maxRecDepth 100000 in
theorem close_short (r : Rd) (w : World) (b : Nat) (h : r.At w b) (hs : (r.shut || r.code != 0) = false) (hi : r.item < (r.plan.size : Int)) :
    Calls Try.prog 29 #[.pointer (some ⟨b, 0, none⟩)] w fun e w' => e = .returned (.agg #[.int .i64 4, .int .i64 r.taken]) ∧ Turned w w' b { r with code := 4, place := r.taken, shut := true } := by
  have H := Aside0.mk h
  obtain ⟨taken, code, place, shut, plan, most, item, start, state, num, need, v⟩ := r
  simp only at hs hi
  have hlt := h.lt
  have hlt1 : b < w.heap.size + 1 := by omega
  have hne : (w.heap.size = b) = False := eq_false (by omega)
  have hne' : (b = w.heap.size) = False := eq_false (by omega)
  have c1 := h.c1
  have c2 := h.c2
  have c3 := h.c3
  have c4 := h.c4
  have c6 := h.c6
  have f3 := h.fro 3
  simp only at c1 c2 c3 c4 c6
  clear h
  have hi' : decide (item < (plan.size : Int)) = true := decide_eq_true hi
  have HS := Aside0.mk hs
  clear hs hi
  go_enter Try.func29, Try.ntmps29
  go_wp2
  go_quiet ((go_at_call 38; exact Calls.quiet_of_same (stopped_val ⟨taken, code, place, shut, plan, most, item, start, state, num, need, v⟩ _ b (alloc_at H.out _ _) HS.out)))
  go_wp2
  have H4 := Turned.refl (alloc_at H.out (.cells #[.int .i64 0, .int .i64 0] 31) nq)
  have HG0 : ((w.alloc (.cells #[.int .i64 0, .int .i64 0] 31)).drewN nq).heap[w.heap.size]? = some (.cells #[.int .i64 0, .int .i64 0] 31 (0, 0)) := heap_alloc_new w _
  have HK0 : ∀ {w' : World} {r' : Rd}, Turned ((w.alloc (.cells #[.int .i64 0, .int .i64 0] 31)).drewN nq) w' b r' → Turned w w' b r' := fun h => from_alloc h
  clear c1 c2 c3 c4 c6 f3
  generalize ((w.alloc (.cells #[.int .i64 0, .int .i64 0] 31)).drewN nq) = w4 at H4 HG0 HK0 ⊢
  replace HK0 := Aside0.mk @HK0
  refine wp_region_still_tail 8 (by kernel_rfl) (by kernel_rfl) ?_
  change wpStill _ _ (World.drew w4) (fun a' => wpList _ _ _ _ a' (World.drew w4)) _ _
  have H5 := Turned.drew1 H4
  generalize World.drew w4 = w5 at H5 ⊢
  have c0 := H5.1.c0
  simp only at c0
  replace H5 := Aside0.mk H5
  simp only [List.take_succ_cons, List.take_zero, List.drop_succ_cons, List.drop_zero]
  repeat still_step
  refine wpStill_nil ?_
  change wpList _ _ _ _ _ w5
  go_wp2_with (go_at_call 37; refine (fail_calls _ _ b H5.out.1 4 taken).mono ?_; rintro e w6 ⟨rfl, hT, hsz6⟩; have HT := Aside0.mk (HK0.out (H5.out.trans hT)); have HG := kept_block (H5.out.trans hT) HG0 (by omega); have d1 := hT.1.c1; have d2 := hT.1.c2; have d3 := hT.1.c3; have f3 := hT.1.fro 3; simp only at d1 d2 d3; have q0 := cell3 HG 0; have q1 := cell3 HG 1; have z0 := fro3 HG 0; have z1 := fro3 HG 1; replace HG := Aside0.mk HG; clear hT hsz6)
  refine bodyPost_ret (results_c rfl _ _ w.heap.size 31 _ (0, 0) _ rfl (set2 (keep_set HG.out (by omega))) Try.underlying31 rfl rfl) rfl ⟨rfl, ?_⟩
  exact ((HT.out.set 3 (.bool true) (r' := ⟨taken, 4, taken, true, plan, most, item, start, state, num, need, v⟩) rfl).other (Nat.le_refl _) hlt _ _).other (Nat.le_refl _) hlt _ _
theorem close_ps (p : Ps) (w : World) (b base : Nat) (ok : Nat → Prop) (hR : Rep p w b base ok) (hb : ¬ ok b) :
    Calls Try.prog 29 #[.pointer (some ⟨b, 0, none⟩)] w fun e w' => e = .returned (.agg #[.int .i64 (close p).code, .int .i64 (close p).place]) ∧ Rep (close p) w' b base ok ∧ Frame ok b w w' := by
  obtain ⟨v, hA, hO⟩ := hR
  by_cases hs : p.stopped = true
  · have e : close p = { p with shut := true } := by unfold close; rw [if_pos hs]
    rw [e]
    refine (close_still (p.rd v) w b hA (.inl hs)).mono ?_
    rintro e w' ⟨rfl, hT⟩
    exact ⟨rfl, rep_turned hO hb hT rfl rfl, Frame.turned hT⟩
  · by_cases hi : p.item < (p.plan.size : Int)
    · have e : close p = { p with code := 4, place := p.taken, shut := true } := by unfold close; rw [if_neg hs, if_pos hi]
      rw [e]
      refine (close_short (p.rd v) w b hA (Bool.eq_false_iff.2 hs) hi).mono ?_
      rintro e w' ⟨rfl, hT⟩
      exact ⟨rfl, rep_turned hO hb hT rfl rfl, Frame.turned hT⟩
    · have e : close p = { p with shut := true } := by unfold close; rw [if_neg hs, if_neg hi]
      rw [e]
      refine (close_still (p.rd v) w b hA (.inr ⟨Bool.eq_false_iff.2 hs, hi⟩)).mono ?_
      rintro e w' ⟨rfl, hT⟩
      exact ⟨rfl, rep_turned hO hb hT rfl rfl, Frame.turned hT⟩
end Go.Proofs.Ytnilogameaaooaa.Rdr
/- wire.NewReader, walked by hand. -/
namespace Go.Proofs.Ytnilogameaaooaa.Rdr
open Go.RowKit Go.Proofs.Ytnilogameaaooaa.Q Go.Proofs.YtnilogameaaooaaW.PrintWords Go.Proofs.YtnilogameaaooaaW.PrintLast Go.Proofs.YtnilogameaaooaaW.PrintMore Go.Proofs.Ytnilogameaaooaa.Bytes
set_option linter.unusedVariables false
set_option linter.unusedSimpArgs false

/-- The first letter of a plan that is none. -/
def bad1 : List UInt8 → Nat → Option Nat
  | [], _ => none
  | c :: l, i => if c = 105 ∨ c = 116 then bad1 l (i + 1) else some i
def startM (plan : ByteArray) (m : Int) : Ps := ⟨0, 0, 0, false, plan, m, 0, 0, 0, 0, 8, []⟩
def newM (plan : ByteArray) (m : Int) : Ps := match bad1 (bs plan) 0 with
  | none => startM plan m
  | some i => { startM plan m with code := 30, place := i }
theorem newM_none {plan : ByteArray} {m : Int} (h : bad1 (bs plan) 0 = none) : newM plan m = startM plan m := by unfold newM; rw [h]
theorem newM_some {plan : ByteArray} {m : Int} {i : Nat} (h : bad1 (bs plan) 0 = some i) : newM plan m = { startM plan m with code := 30, place := i } := by unfold newM; rw [h]
theorem data_get (s : ByteArray) (i : Nat) (h : i < s.size) : (bs s).drop i = (s[i]'h) :: (bs s).drop (i + 1) := by
  have hl : i < (bs s).length := by rw [← size_bs]; exact h
  rw [List.drop_eq_getElem_cons hl]
  rfl
def m0 (most : Int) : Int := if most < 0 then 0 else most
set_option maxHeartbeats 4000000 in
set_option maxRecDepth 100000 in
theorem new_calls (plan : ByteArray) (most : Int) (w : World) (hp : plan.size ≤ 140737488355328) :
    Calls Try.prog 27 #[.string plan, .int .i64 most] w fun e w' => e = .returned (.pointer (some ⟨w.heap.size, 0, none⟩)) ∧ ((newM plan (m0 most)).rd (.slice none 0 0)).At w' w.heap.size ∧ Below w.heap.size w w' := by
  have HM : (most < 0 → m0 most = 0) ∧ (¬ most < 0 → m0 most = most) := by unfold m0; exact ⟨fun h => if_pos h, fun h => if_neg h⟩
  obtain ⟨m, hm⟩ : ∃ m, m0 most = m := ⟨_, rfl⟩
  rw [hm] at HM ⊢
  have HW := Aside0.mk (show ((startM plan m).rd (.slice none 0 0)).At (w.alloc (.cells ((startM plan m).rd (.slice none 0 0)).cells 71)) w.heap.size from heap_alloc_new w _)
  by_cases hneg : most < 0
  · obtain rfl := HM.1 hneg
    have he : (most < 0) = True := eq_true hneg
    clear HM hm hneg
    go_enter Try.func27, Try.ntmps27
    go_wp2
    go_loopg [14] plan.size (fun g v14 wx => ∃ i : Nat, i + g = plan.size ∧ v14 = .int .i64 (i : Int) ∧ wx = w.alloc (.cells ((startM plan 0).rd (.slice none 0 0)).cells 71) ∧ Aside0 (bad1 (bs plan) 0 = bad1 ((bs plan).drop i) i))
    case atStart => exact ⟨0, by omega, rfl, rfl, ⟨rfl⟩⟩
    case round =>
      obtain ⟨i, hig, rfl, rfl, HB⟩ := hrel
      cases gk with
      | zero =>
        obtain rfl : i = plan.size := by omega
        have HB2 := Aside0.mk (show bad1 (bs plan) 0 = none by rw [HB.out, List.drop_of_length_le (by rw [← size_bs]; omega)]; rfl)
        clear HB
        go_wp2
        go_ret
        exact ⟨rfl, by rw [newM_none HB2.out]; exact HW.out, (Below.refl _ _).alloc (Nat.le_refl _) _⟩
      | succ g =>
        have hi : i < plan.size := by omega
        have hd := data_get plan i hi
        obtain ⟨c, hc⟩ : ∃ c : UInt8, plan[i]'hi = c := ⟨_, rfl⟩
        rw [hc] at hd
        by_cases h1 : c = 105 ∨ c = 116
        · have HB2 := Aside0.mk (show bad1 (bs plan) 0 = bad1 ((bs plan).drop (i + 1)) (i + 1) by rw [HB.out, hd]; simp only [bad1]; rw [if_pos h1])
          clear hd
          rcases h1 with h1 | h1
          · have e1 : (((plan[i]'hi).toNat : Int) != 105) = false := by rw [hc, h1]; rfl
            clear hc h1
            go_wp2
            go_roundg g
            case measure => omega
            case rel => exact ⟨i + 1, by omega, by go_num, rfl, HB2⟩
          · have e1 : (((plan[i]'hi).toNat : Int) != 105) = true := by rw [hc, h1]; rfl
            have e2 : (((plan[i]'hi).toNat : Int) != 116) = false := by rw [hc, h1]; rfl
            clear hc h1
            go_wp2
            go_roundg g
            case measure => omega
            case rel => exact ⟨i + 1, by omega, by go_num, rfl, HB2⟩
        · have HB2 := Aside0.mk (show bad1 (bs plan) 0 = some i by rw [HB.out, hd]; simp only [bad1]; rw [if_neg h1])
          clear hd
          have e1 : (((plan[i]'hi).toNat : Int) != 105) = true := by rw [hc, bne_iff_ne]; intro e; exact h1 (.inl ((byte_eq_iff c 105).1 e))
          have e2 : (((plan[i]'hi).toNat : Int) != 116) = true := by rw [hc, bne_iff_ne]; intro e; exact h1 (.inr ((byte_eq_iff c 116).1 e))
          clear hc h1
          go_wp2_with (go_at_call 37; refine (fail_calls ((startM plan 0).rd (.slice none 0 0)) _ _ HW.out 30 i).mono ?_; rintro e w6 ⟨rfl, hT, hsz6⟩)
          go_ret
          exact ⟨rfl, by rw [newM_some HB2.out]; exact hT.1, (((Below.refl _ _).alloc (Nat.le_refl _) _).grown hT.2 (by rw [size_alloc]; omega) (fun k hk => by injection hk with hk; omega))⟩
  · obtain rfl := HM.2 hneg
    have he : (m < 0) = False := eq_false hneg
    clear HM hm hneg
    go_enter Try.func27, Try.ntmps27
    go_wp2
    go_loopg [14] plan.size (fun g v14 wx => ∃ i : Nat, i + g = plan.size ∧ v14 = .int .i64 (i : Int) ∧ wx = w.alloc (.cells ((startM plan m).rd (.slice none 0 0)).cells 71) ∧ Aside0 (bad1 (bs plan) 0 = bad1 ((bs plan).drop i) i))
    case atStart => exact ⟨0, by omega, rfl, rfl, ⟨rfl⟩⟩
    case round =>
      obtain ⟨i, hig, rfl, rfl, HB⟩ := hrel
      cases gk with
      | zero =>
        obtain rfl : i = plan.size := by omega
        have HB2 := Aside0.mk (show bad1 (bs plan) 0 = none by rw [HB.out, List.drop_of_length_le (by rw [← size_bs]; omega)]; rfl)
        clear HB
        go_wp2
        go_ret
        exact ⟨rfl, by rw [newM_none HB2.out]; exact HW.out, (Below.refl _ _).alloc (Nat.le_refl _) _⟩
      | succ g =>
        have hi : i < plan.size := by omega
        have hd := data_get plan i hi
        obtain ⟨c, hc⟩ : ∃ c : UInt8, plan[i]'hi = c := ⟨_, rfl⟩
        rw [hc] at hd
        by_cases h1 : c = 105 ∨ c = 116
        · have HB2 := Aside0.mk (show bad1 (bs plan) 0 = bad1 ((bs plan).drop (i + 1)) (i + 1) by rw [HB.out, hd]; simp only [bad1]; rw [if_pos h1])
          clear hd
          rcases h1 with h1 | h1
          · have e1 : (((plan[i]'hi).toNat : Int) != 105) = false := by rw [hc, h1]; rfl
            clear hc h1
            go_wp2
            go_roundg g
            case measure => omega
            case rel => exact ⟨i + 1, by omega, by go_num, rfl, HB2⟩
          · have e1 : (((plan[i]'hi).toNat : Int) != 105) = true := by rw [hc, h1]; rfl
            have e2 : (((plan[i]'hi).toNat : Int) != 116) = false := by rw [hc, h1]; rfl
            clear hc h1
            go_wp2
            go_roundg g
            case measure => omega
            case rel => exact ⟨i + 1, by omega, by go_num, rfl, HB2⟩
        · have HB2 := Aside0.mk (show bad1 (bs plan) 0 = some i by rw [HB.out, hd]; simp only [bad1]; rw [if_neg h1])
          clear hd
          have e1 : (((plan[i]'hi).toNat : Int) != 105) = true := by rw [hc, bne_iff_ne]; intro e; exact h1 (.inl ((byte_eq_iff c 105).1 e))
          have e2 : (((plan[i]'hi).toNat : Int) != 116) = true := by rw [hc, bne_iff_ne]; intro e; exact h1 (.inr ((byte_eq_iff c 116).1 e))
          clear hc h1
          go_wp2_with (go_at_call 37; refine (fail_calls ((startM plan m).rd (.slice none 0 0)) _ _ HW.out 30 i).mono ?_; rintro e w6 ⟨rfl, hT, hsz6⟩)
          go_ret
          exact ⟨rfl, by rw [newM_some HB2.out]; exact hT.1, (((Below.refl _ _).alloc (Nat.le_refl _) _).grown hT.2 (by rw [size_alloc]; omega) (fun k hk => by injection hk with hk; omega))⟩
end Go.Proofs.Ytnilogameaaooaa.Rdr
/- A row of bytes of one's own of which what lies behind it may be frozen: '[]byte(s)' and what is appended to it. -/
namespace Go.Proofs.Ytnilogameaaooaa.Tail
open Go.RowKit Go.Proofs.YtnilogameaaooaaW.PrintWords Go.Proofs.YtnilogameaaooaaW.PrintLast Go.Proofs.YtnilogameaaooaaW.PrintMore
set_option linter.unusedVariables false
set_option linter.unusedSimpArgs false

/-- The bytes of a text as numbers. -/
def numsOf (s : ByteArray) : List Int := s.data.toList.map fun b => (b.toNat : Int)
theorem numsOf_len (s : ByteArray) : (numsOf s).length = s.size := by simp [numsOf]
def OwnT (w : World) (base : Nat) (e : TypeId) (v : Value) (bs : List Int) : Prop :=
  ∃ g cap cur fz, v = .slice (some ⟨g, 0, none⟩) bs.length cap ∧ base ≤ g ∧ w.heap[g]? = some (.cells cur e fz) ∧ (fz.2 = 0 ∨ cap ≤ fz.1) ∧ bs.length ≤ cap ∧ cap ≤ maxLen ∧ cur.size = cap ∧ cur.toList.take bs.length = nums .u8 bs
section
variable {w w1 : World} {base : Nat} {e : TypeId} {v : Value} {bs : List Int}
theorem OwnT.kept (h : OwnT w base e v bs) {row : Option Nat} (hg : w.grownBy w1 row) (hne : v.ownBlock ≠ row) : OwnT w1 base e v bs := by
  obtain ⟨g, cap, cur, fz, rfl, hb, hgg, r⟩ := h
  exact ⟨g, cap, cur, fz, rfl, hb, (hg.block g (Array.getElem?_eq_some_iff.1 hgg).1 (by simpa [Value.ownBlock] using hne)).trans hgg, r⟩
theorem OwnT.alloc (h : OwnT w base e v bs) (o : Obj) : OwnT (w.alloc o) base e v bs := by
  refine h.kept (World.grownBy_alloc w o none) ?_
  obtain ⟨g, cap, cur, fz, rfl, _⟩ := h
  simp [Value.ownBlock]
theorem OwnT.lower (h : OwnT w base e v bs) {base' : Nat} (hb : base' ≤ base) : OwnT w base' e v bs := by
  obtain ⟨g, cap, cur, fz, rfl, hb', r⟩ := h
  exact ⟨g, cap, cur, fz, rfl, Nat.le_trans hb hb', r⟩
theorem OwnT.reads (h : OwnT w base e v bs) : ∃ A c, v = .slice A bs.length c ∧ ReadsInt w .u8 A bs.length bs := by
  obtain ⟨g, cap, cur, fz, rfl, hb, hgg, _, hl, hm, hc, ht⟩ := h
  refine ⟨_, _, rfl, rfl, by simp only [maxLen] at hm; omega, fun _ => ⟨_, rfl, fun j hj => ?_⟩⟩
  have hadd : (⟨g, 0, none⟩ : Addr).add j = ⟨g, j, none⟩ := by unfold Addr.add; split <;> simp_all
  rw [hadd, cell_of_row w g j cur e fz hgg]
  have h1 : (cur.toList.take bs.length)[j]? = cur[j]? := by rw [List.getElem?_take, if_pos hj]; simp
  rw [← h1, ht]
  simp [nums, List.getD_eq_getElem?_getD, List.getElem?_eq_getElem hj]
theorem OwnT.of_own {B n : Nat} {xs : List Value} (h : w.ownsRow B e 1 v n xs) (hn : n = bs.length) (hx : xs = nums .u8 bs) (h0 : 0 < bs.length) (hb : base ≤ B) : OwnT w base e v bs := by
  rcases h.2 with ⟨_, he⟩ | ⟨g, cap, cur, rfl, hbb, hgg, hnc, hcm, hcs, ht⟩
  · omega
  · subst hn hx
    exact ⟨g, cap, cur, (0, 0), rfl, Nat.le_trans hb hbb, hgg, .inl rfl, hnc, hcm, by simpa using hcs, by simpa using ht⟩
end
theorem OwnT.string {P : Program} {w : World} {base src dst e : Nat} {v : Value} {bs : List Int} (hs : P.underlying src = some (.slice e)) (he : P.underlying e = some (.int .u8)) (hd : P.underlying dst = some .string) (h : OwnT w base e v bs) :
    (convert src dst v).run P w = .ok (.string (strOfNums bs)) w := by
  obtain ⟨A, c, rfl, hr⟩ := h.reads
  exact string_of_reads hs he hd hr
section
variable {P : Program} {ops : Array Oper} {rest : List Oper} {o : Oper} {a : Act} {Q : Exit → Act → World → Prop}
/-- '[]byte(s)'. -/
theorem T_conv {w0 W : World} (base e : Nat) (hgd : o.guard = none) {N : Tmp} (hd : o.dst = some N) (src t : TypeId) (x : Operand) (ho : o.op = .convert src t x) (s : ByteArray) (hx : a.eval x = .string s)
    (hsrc : P.underlying src = some .string) (ht : P.underlying t = some (.slice e)) (he : P.underlying e = some (.int .u8)) (hm : s.size ≤ maxLen) (HB : Below base w0 W) (hbase : base ≤ W.heap.size)
    (h : ∀ v1 w1, OwnT w1 base e v1 (numsOf s) → Below base w0 w1 → wpList P ops Q rest (a.put o.dst v1) w1) : wpList P ops Q (o :: rest) a W := by
  have hr := Lib.run_convert_string_bytes (P := P) W src t e s hsrc ht he
  have hge := grownCap_ge W s.size 0 e
  have hcm : grownCap W s.size 0 e ≤ maxLen := grownCap_le_maxLen W s.size 0 e hm
  have hsz : (Lib.bytesCells W e s).size = grownCap W s.size 0 e := by
    simp only [Lib.bytesCells, Array.size_append, Array.size_map, Array.size_replicate]
    have : s.data.size = s.size := rfl
    omega
  refine Kd.event_run hgd (w1 := Lib.bytesWorld W e s) (v := .slice (some ⟨W.heap.size, 0, none⟩) s.size (grownCap W s.size 0 e)) ?_ (h _ _ ⟨W.heap.size, grownCap W s.size 0 e, Lib.bytesCells W e s, _, by rw [numsOf_len], hbase, Lib.bytesWorld_at_new W e s, .inr (by simp only; omega), by rw [numsOf_len]; exact hge, hcm, hsz, ?_⟩ ?_)
  · simp [execOp, ho, hx, hr]
  · rw [numsOf_len]
    simp only [Lib.bytesCells, Array.toList_append, Array.toList_map]
    have hl : s.size = (s.data.toList.map fun b => Value.int IntKind.u8 (b.toNat : Int)).length := by simp
    rw [hl, List.take_left]
    simp [nums, numsOf]
  · exact HB.trans ⟨by simp [Lib.bytesWorld, World.freeze, World.alloc, World.drew, -World.alloc_eq, -World.drew_eq], by simp [Lib.bytesWorld, World.freeze, World.alloc, World.drew, -World.alloc_eq, -World.drew_eq], by simp [Lib.bytesWorld, World.freeze, World.alloc, World.drew, -World.alloc_eq, -World.drew_eq], by rw [Lib.bytesWorld_size]; omega, fun k hk => Lib.bytesWorld_at_old W e s k (by omega)⟩
theorem cell_lit (W : World) (u : Value) (t : TypeId) : (W.alloc (.cells #[u] t)).cell? ⟨W.heap.size, 0, none⟩ = some u := (cell_of_row _ _ 0 _ t (0, 0) (heap_alloc_new W _)).trans rfl
/-- One byte more behind it. -/
theorem T_append {w0 W : World} (base e : Nat) (hgd : o.guard = none) (s x : Operand) (t : TypeId) (ho : o.op = .call { callee := .builtin .append, args := #[s, x], argTypes := #[t, t] })
    (ht : P.underlying t = some (.slice e)) (hinfo : (P.info? e).map (fun i => (i.zero, i.size, i.bytes)) = some (some (.int .u8 0), 1, 1))
    (v : Value) (bs : List Int) (y : Int) (hs : a.eval s = v) (g : Nat) (c : Nat) (hx : a.eval x = .slice (some ⟨g, 0, none⟩) 1 c) (hg : W.cell? ⟨g, 0, none⟩ = some (.int .u8 y))
    (HO : OwnT W base e v bs) (HB : Below base w0 W) (hbase : base ≤ W.heap.size) (hl : bs.length + 1 ≤ 140737488355328)
    (h : ∀ v1 w1, OwnT w1 base e v1 (bs ++ [y]) → Below base w0 w1 → wpList P ops Q rest (a.put o.dst v1) w1) : wpList P ops Q (o :: rest) a W := by
  obtain ⟨i, hi, hzz⟩ := Option.map_eq_some_iff.1 hinfo
  simp only [Prod.mk.injEq] at hzz
  obtain ⟨hz, h4, h5⟩ := hzz
  obtain ⟨g0, cap, cur, fz, rfl, hb, hgg, hfz, hn, hm, hcs, htk⟩ := HO
  have hml : maxLen = 9223372036854775807 := rfl
  have hx1 : ∀ j u, ([Value.int .u8 y] : List Value)[j]? = some u → W.cell? ((⟨g, 0, none⟩ : Addr).add j) = some u := by
    intro j u hj
    rcases j with _ | j
    · simp only [List.getElem?_cons_zero, Option.some.injEq] at hj
      subst hj
      exact hg
    · simp at hj
  have hcell : ∀ j, j < cap → W.cell? ⟨g0, j, none⟩ = cur[j]? := fun j hj => cell_of_row W g0 j cur e fz hgg
  refine wpList_append_arg (P := P) W hgd s x t ho e i (.int .u8 0) 1 1 ht hi hz h4 h5 rfl (by omega) g0 0 bs.length cap (nums .u8 bs) hs (by simp [nums]) ?_ ⟨g, 0, none⟩ 1 c [.int .u8 y] hx rfl hx1 (by simp [Value.oneCell']) ?_ (by omega) (by omega) ?_ ?_
  · intro j u hj
    have hjl : j < bs.length := by
      have := (List.getElem?_eq_some_iff.1 hj).1
      simpa [nums] using this
    rw [Nat.zero_add, hcell j (by omega)]
    rw [← htk, List.getElem?_take, if_pos hjl] at hj
    simpa using hj
  · intro hr j hj
    have hj0 : j = 0 := by simpa using hj
    subst hj0
    have hlt : bs.length < cap := by omega
    simp only [Nat.zero_add, Nat.mul_one, Nat.add_zero]
    refine ⟨?_, ?_⟩
    · rw [hcell _ hlt, Array.getElem?_eq_getElem (by omega)]
      rfl
    · simp only [World.frozen?, hgg]
      obtain ⟨f1, f2⟩ := fz
      simp only at hfz
      simp only [Bool.and_eq_false_iff, decide_eq_false_iff_not]
      omega
  · intro hr
    refine h _ _ ⟨g0, cap, cur.setIfInBounds bs.length (.int .u8 y), fz, by simp, hb, ?_, hfz, by simpa using hr, hm, by simpa using hcs, ?_⟩ ?_
    · simp [World.setCells, World.setCell, Array.getElem?_modify, hgg]
    · simp only [List.length_append, List.length_cons, List.length_nil, Array.toList_setIfInBounds]
      have hlt : bs.length < cur.toList.length := by
        have : cur.toList.length = cur.size := Array.length_toList
        omega
      rw [List.take_add_one, List.getElem?_set_self hlt, List.take_set_of_le (Nat.le_refl _), htk]
      simp [nums]
    · exact HB.setCell hb _
  · intro hr v' w' ho' hgr
    refine h v' w' (OwnT.of_own ho' (by simp) (by simp [nums]) (by simp) hbase) ?_
    exact HB.grown hgr hbase (fun k hk => by cases hk)
end
end Go.Proofs.Ytnilogameaaooaa.Tail
