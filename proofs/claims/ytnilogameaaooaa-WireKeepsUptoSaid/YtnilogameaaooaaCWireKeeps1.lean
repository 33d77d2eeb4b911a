/- Texts of this claim, put together: Bytes, Ord, WordsMore, Q0, Q27, Q28, Q29, Q30, Kit, Reader, ReaderNext. -/
import Derived.Test.YtnilogameaaooaaWWords
import Derived.Test.YtnilogameaaooaaWLast
import Derived.Lib.SmallJoins
import Derived.Lib.Bytealg
import Derived.Test.YtnilogameaaooaaWMore
import Derived.Lib.AppendStr
import Derived.Test.YtnilogameaaooaaProg
import Derived.Below
import Derived.Deep.Draws
import Derived.Deep.AppendLies
import Derived.Maps.AppendAt
import Derived.OwnWalk
import Derived.Laws.BytesArg
import Derived.Laws.MakeOwn
import Derived.Laws.OwnMore
import Derived.Deep.OwnRows
import Derived.Tactics
import Derived.Lib.ConvBytes
import Derived.Laws.Slices
import Derived.WalkKit
import Derived.KernelRfl
import Derived.RowKit3
import Derived.Deep.LoopGhost
import Derived.Deep.QuietTactic
import Derived.BigQuiet
import Derived.WideLaws
import Derived.Deep.DeepCutAuto
import Derived.Deep.CutBlock
import Derived.Deep.RegionHeld3
import Derived.Laws.Rows
import Derived.ArgAppend
import Derived.Laws.IdiomCopy
import Derived.OrdersHeld
import Derived.Laws.BitsLemmas
import Derived.RowKit
import Derived.Test.YtnilogameaaooaaWTab
import Derived.Test.YtnilogameaaooaaWFour
import Derived.Test.YtnilogameaaooaaWQPut
import Derived.Test.YtnilogameaaooaaWApart
import Derived.Test.YtnilogameaaooaaWArr
import Derived.Test.YtnilogameaaooaaWZeros
import Derived.Test.YtnilogameaaooaaWFoot
import Derived.Test.YtnilogameaaooaaWKept
import Derived.Test.YtnilogameaaooaaWShare
import Derived.Test.YtnilogameaaooaaWN
import Derived.Test.YtnilogameaaooaaWFootNe
import Derived.Test.YtnilogameaaooaaWAt
import Derived.Test.YtnilogameaaooaaWEqStruct
import Derived.Test.YtnilogameaaooaaWRepsOne
import Derived.Test.YtnilogameaaooaaWInv
import Derived.Test.YtnilogameaaooaaWInvWords
import Derived.Test.YtnilogameaaooaaWGuard
import Derived.Test.YtnilogameaaooaaWNEv
import Derived.WalkMore
/- Plain lemmas on strings as lists of bytes; no program in sight. -/
set_option linter.unusedVariables false
set_option linter.unusedSimpArgs false
namespace Go.Proofs.Ytnilogameaaooaa.Bytes
open Go.RowKit Go.Proofs.YtnilogameaaooaaW.PrintWords

/-- The bytes of a string. -/
def bs (s : ByteArray) : List UInt8 := s.data.toList
theorem toList_bs (s : ByteArray) : s.toList = bs s := ByteArray.toList_eq s
theorem size_bs (s : ByteArray) : s.size = (bs s).length := by
  simp only [bs, Array.length_toList]
  rfl
theorem bs_append (a b : ByteArray) : bs (a ++ b) = bs a ++ bs b := by
  obtain ⟨a⟩ := a
  obtain ⟨b⟩ := b
  rw [bs, ByteArray.mk_append_mk]
  simp [bs]
theorem bs_extract (s : ByteArray) (i j : Nat) : bs (s.extract i j) = ((bs s).drop i).take (j - i) := by
  simp [bs, ByteArray.data_extract, Array.toList_extract, List.extract]
theorem bs_mk (l : List UInt8) : bs ⟨l.toArray⟩ = l := by simp [bs]
theorem bs_inj {a b : ByteArray} (h : bs a = bs b) : a = b := by
  obtain ⟨a⟩ := a
  obtain ⟨b⟩ := b
  simp only [bs] at h
  congr 1
  exact Array.toList_inj.1 h
theorem bs_eq_iff (a b : ByteArray) : bs a = bs b ↔ a = b := ⟨bs_inj, fun h => by rw [h]⟩
/-- Byte i, as a number; 0 outside. -/
theorem bt_bs (s : ByteArray) (i : Int) : bt s i = (((bs s).getD i.toNat 0).toNat : Int) := by
  unfold bt
  split
  · rename_i h
    have h' : i.toNat < (bs s).length := by rw [← size_bs]; exact h
    rw [List.getD_eq_getElem?_getD, List.getElem?_eq_getElem h']
    simp only [Option.getD_some]
    rfl
  · rename_i h
    have h' : (bs s).length ≤ i.toNat := by rw [← size_bs]; omega
    rw [List.getD_eq_getElem?_getD, List.getElem?_eq_none h']
    rfl
theorem w64 {x : Int} (h0 : -9223372036854775808 ≤ x) (h1 : x ≤ 9223372036854775807) : wrap64 x = x := by
  unfold wrap64
  omega
theorem byte_eq_iff (x y : UInt8) : ((x.toNat : Int) = (y.toNat : Int)) ↔ x = y := by
  constructor
  · intro h
    exact UInt8.toNat_inj.1 (by omega)
  · intro h
    rw [h]
end Go.Proofs.Ytnilogameaaooaa.Bytes
/- Strings' order: '<=' and '>' in the words of '<' alone, for the walks of this seat. -/
set_option linter.unusedVariables false
set_option linter.unusedSimpArgs false
namespace Go.Proofs.Ytnilogameaaooaa.Ord
open Go

theorem less_total : ∀ (a b : List UInt8), (Op.bytesLess a b || a == b) = !Op.bytesLess b a
  | [], [] => by simp [Op.bytesLess]
  | [], _ :: _ => by simp [Op.bytesLess]
  | _ :: _, [] => by simp [Op.bytesLess]
  | x :: a, y :: b => by
    have ih := less_total a b
    simp only [Op.bytesLess]
    by_cases h : x = y
    · subst h
      have : ¬ x < x := by rw [UInt8.lt_iff_toNat_lt]; omega
      simp only [this, decide_false, Bool.false_or, beq_self_eq_true, Bool.true_and]
      rw [← ih]
      congr 1
      rw [Bool.eq_iff_iff]
      simp
    · have hn : ¬ x.toNat = y.toNat := fun e => h (UInt8.toNat_inj.1 e)
      have e1 : (x == y) = false := beq_eq_false_iff_ne.2 h
      have e2 : (y == x) = false := beq_eq_false_iff_ne.2 (fun e => h e.symm)
      have e3 : (x :: a == y :: b) = false := by rw [beq_eq_false_iff_ne]; intro e; injection e with e _; exact h e
      rw [e1, e2, e3]
      simp only [Bool.false_and, Bool.or_false]
      rw [Bool.eq_iff_iff]
      simp only [decide_eq_true_eq, Bool.not_eq_true', decide_eq_false_iff_not, UInt8.lt_iff_toNat_lt]
      omega
theorem str_leq (t : TypeId) (a b : ByteArray) : binOp .leq t (.string a) (.string b) = pure (.bool (!Op.bytesLess b.toList a.toList)) := by
  simp [binOp, Op.stringOp, ← less_total]
theorem str_gtr (t : TypeId) (a b : ByteArray) : binOp .gtr t (.string a) (.string b) = pure (.bool (Op.bytesLess b.toList a.toList)) := by
  have := less_total a.toList b.toList
  simp [binOp, Op.stringOp] 
  cases h1 : Op.bytesLess a.toList b.toList <;> cases h2 : (a.toList == b.toList) <;> cases h3 : Op.bytesLess b.toList a.toList <;> simp_all
theorem str_geq (t : TypeId) (a b : ByteArray) : binOp .geq t (.string a) (.string b) = pure (.bool !(Op.bytesLess a.toList b.toList)) := by simp [binOp, Op.stringOp]
/-- The order of three answers. -/
theorem compare_less : ∀ (a b : List UInt8), (Op.bytesLess a b = true ↔ Lib.compareBytes a b = -1)
  | [], [] => by simp [Op.bytesLess, Lib.compareBytes]
  | [], _ :: _ => by simp [Op.bytesLess, Lib.compareBytes]
  | _ :: _, [] => by simp [Op.bytesLess, Lib.compareBytes]
  | x :: a, y :: b => by
    have ih := compare_less a b
    simp only [Op.bytesLess, Lib.compareBytes, Bool.or_eq_true, Bool.and_eq_true, decide_eq_true_eq, beq_iff_eq]
    by_cases h : x < y
    · simp [h]
    · by_cases h2 : y < x
      · have : ¬ x = y := by intro e; subst e; exact h h2
        simp [h, h2, this]
      · have e : x = y := by
          rw [UInt8.lt_iff_toNat_lt] at h h2
          exact UInt8.toNat_inj.1 (by omega)
        subst e
        simp [h, ih]
theorem compare_eq : ∀ (a b : List UInt8), (Lib.compareBytes a b = 0 ↔ a = b)
  | [], [] => by simp [Lib.compareBytes]
  | [], _ :: _ => by simp [Lib.compareBytes]
  | _ :: _, [] => by simp [Lib.compareBytes]
  | x :: a, y :: b => by
    have ih := compare_eq a b
    simp only [Lib.compareBytes]
    by_cases h : x < y
    · have : ¬ x = y := by intro e; subst e; rw [UInt8.lt_iff_toNat_lt] at h; omega
      simp [h, this]
    · by_cases h2 : y < x
      · have : ¬ x = y := by intro e; subst e; exact h h2
        simp [h, h2, this]
      · have e : x = y := by
          rw [UInt8.lt_iff_toNat_lt] at h h2
          exact UInt8.toNat_inj.1 (by omega)
        subst e
        simp [h, ih]
theorem compare_range : ∀ (a b : List UInt8), Lib.compareBytes a b = -1 ∨ Lib.compareBytes a b = 0 ∨ Lib.compareBytes a b = 1
  | [], [] => by simp [Lib.compareBytes]
  | [], _ :: _ => by simp [Lib.compareBytes]
  | _ :: _, [] => by simp [Lib.compareBytes]
  | x :: a, y :: b => by
    have ih := compare_range a b
    simp only [Lib.compareBytes]
    split
    · simp
    · split
      · simp
      · exact ih
end Go.Proofs.Ytnilogameaaooaa.Ord
/- Words beside the print's: a slice made with no element and a capacity of its own; a string appended beside other rows. -/
set_option linter.unusedVariables false
set_option linter.unusedSimpArgs false
namespace Go.Proofs.YtnilogameaaooaaW.PrintWords
open Go.RowKit
namespace Kd
section
variable {P : Program} {ops : Array Oper} {rest : List Oper} {o : Oper} {a : Act} {Q : Exit → Act → World → Prop}
variable {α : Type}
/-- make([]T, 0, n): no element, room for n. -/
theorem R_make0 (d : Kd α) {w0 W : World} (base e : Nat) (hgd : o.guard = none) {N : Tmp} (hd : o.dst = some N) (t : TypeId) (x y : Operand) (ho : o.op = .makeSlice t x y) (n : Int) (hx : a.eval x = .int .i64 0) (hy : a.eval y = .int .i64 n)
    (ht : P.underlying t = some (.slice e)) (z : Value) (bytes : Nat) (hinfo : (P.info? e).map (fun i => (i.zero, i.size, i.bytes)) = some (some z, d.sz, bytes)) (hz : z.cells.size = d.sz) (hs0 : 0 < d.sz) (hb0 : 0 < bytes)
    (z0 : α) {ok okp : Nat → Prop} (hzero : d.M W base okp z0 z.cells.toList) (hok : ∀ k, okp k → ok k) (hfresh : ok W.heap.size) (h0 : 0 ≤ n) (hl : n.toNat * bytes ≤ 281474976710656) (HB : Below base w0 W) (hbase : base ≤ W.heap.size)
    (h : ∀ v1 w1, d.R e w1 base ok v1 ([] : List α) → Below base w0 w1 → W.grownBy w1 none → (∃ b, v1.ownBlock = some b ∧ W.heap.size ≤ b) → wpList P ops Q rest (a.put o.dst v1) w1) : wpList P ops Q (o :: rest) a W := by
  obtain ⟨m, rfl⟩ := Int.eq_ofNat_of_zero_le h0
  simp only [Int.toNat_natCast] at hl
  obtain ⟨i0, hi, hzz⟩ := Option.map_eq_some_iff.1 hinfo
  simp only [Prod.mk.injEq] at hzz
  obtain ⟨hz0, hz1, hz2⟩ := hzz
  have hm : m ≤ 281474976710656 := Nat.le_trans (Nat.le_mul_of_pos_right _ hb0) hl
  have hr := run_make (P := P) W t e i0 z ht hi hz0 .i64 .i64 0 (m : Int) (by omega) (by omega)
    (by
      have h3 : ((i0.bytes * m : Nat) : Int) ≤ 281474976710656 := by rw [hz2, Nat.mul_comm]; omega
      rwa [Int.natCast_mul] at h3) (by omega)
  simp only [Int.toNat_natCast] at hr
  have hrun : (execOp a.eval o).run P W = .ok (.value (.slice (some ⟨W.heap.size, 0, none⟩) 0 m)) (W.alloc (.cells (madeCells z.cells (m * i0.size)) e)) := by
    simp [execOp, ho, hx, hy, hr]
  refine event_run hgd hrun (h _ _ ⟨fun k hk => ?_, [], ?_, Reps.none _ _⟩ (HB.alloc hbase _) (World.grownBy_alloc W _ none) ⟨W.heap.size, by simp [Value.ownBlock], Nat.le_refl _⟩)
  · have : W.heap.size = k := by simpa [Value.ownBlock] using hk
    subst this
    exact hfresh
  · refine ⟨by simp, .inr ⟨W.heap.size, m, madeCells z.cells (m * i0.size), rfl, hbase, ?_, Nat.zero_le _, by unfold maxLen; omega, ?_, by simp⟩⟩
    · show (W.heap.push _)[W.heap.size]? = _
      simp
    · rw [hz1, size_madeCells]
/-- append(b, s...), s a string: with word on where the row lies. -/
theorem run_append_str_at {w : World} (base : Nat) (t u ty e : TypeId) (i : TypeInfo) (ht : P.underlying t = some (.slice e)) (hu : P.underlying u = some .string) (hi : P.info? e = some i) (hz : i.zero = some (.int .u8 0))
    (hsize : i.size = 1) (hby : i.bytes = 1) (v : Value) (n : Nat) (xs : List Value) (hown : w.ownsRow base e 1 v n xs) (s : ByteArray) (h63 : n + s.size ≤ maxLen) (hbytes : n + s.size ≤ 140737488355328) (hbase : base ≤ w.heap.size) :
    ∃ v' w', (Builtin.append_ #[t, u] ty #[v, .string s]).run P w = .ok v' w' ∧ w'.ownsRow base e 1 v' (n + s.size) (xs ++ Lib.strCells s) ∧ w.grownBy w' v.ownBlock ∧ (v'.ownBlock = v.ownBlock ∨ ∃ b, v'.ownBlock = some b ∧ w.heap.size ≤ b) := by
  rcases hown.2 with ⟨rfl, rfl⟩ | ⟨g, cap, cur, rfl, hbg, hg, hnc, hcm, hcs, htk⟩
  · obtain rfl : xs = [] := List.eq_nil_of_length_eq_zero (by simpa using hown.1)
    obtain ⟨v', w', hr, ho, hgr, _⟩ := Lib.run_append_own_string (P := P) w w.heap.size t u ty e i ht hu hi hz hsize hby (.slice none 0 0) 0 [] (World.ownsRow_nil w _ e 1) s h63 hbytes (Nat.le_refl _)
    refine ⟨v', w', hr, ⟨ho.1, ?_⟩, hgr, ?_⟩
    · rcases ho.2 with h | ⟨g, cap, cur, h1, h2, h3⟩
      · exact .inl h
      · exact .inr ⟨g, cap, cur, h1, Nat.le_trans hbase h2, h3⟩
    · rcases ho.2 with h | ⟨g, cap, cur, h1, h2, h3⟩
      · left; rw [h.1]
      · right; exact ⟨g, by rw [h1]; rfl, h2⟩
  · obtain ⟨v', w', hr, ho, hgr, _⟩ := Lib.run_append_own_string (P := P) w base t u ty e i ht hu hi hz hsize hby _ n xs hown s h63 hbytes hbase
    refine ⟨v', w', hr, ho, hgr, ?_⟩
    by_cases hroom : n + s.size ≤ cap
    · have h2 := Lib.run_append_room_string (P := P) w t u ty e i ht hu hi hsize g n cap cur hg s hroom (by omega)
      rw [hr] at h2
      injection h2 with h2 _
      left; rw [h2]; rfl
    · have h2 := Lib.run_append_grow_string (P := P) w t u ty e i (.int .u8 0) ht hu hi hz ⟨g, 0, none⟩ n cap xs (by rw [hsize]; exact hown.1) (fun j q hj => hown.cells (g := g) rfl j q hj) s (by omega) (by simp only [maxLen] at h63; omega) (growslice_fits (by omega) (by rw [hby]; omega))
      rw [hr] at h2
      injection h2 with h2 _
      right; exact ⟨w.heap.size, by rw [h2]; rfl, Nat.le_refl _⟩
theorem R_append_str {w0 W : World} (base : Nat) (hgd : o.guard = none) (s x : Operand) (t u e : TypeId)
    (ho : o.op = .call { callee := .builtin .append, args := #[s, x], argTypes := #[t, u] })
    (ht : P.underlying t = some (.slice e)) (hu : P.underlying u = some .string) (hinfo : (P.info? e).map (fun i => (i.zero, i.size, i.bytes)) = some (some (.int .u8 0), 1, 1))
    (v : Value) (xs : List Int) (y : ByteArray) (ok : Nat → Prop) (hs : a.eval s = v) (hx : a.eval x = .string y) (hfresh : ∀ k, W.heap.size ≤ k → ok k)
    (HO : (Kd.int .u8).R e W base ok v xs) (HB : Below base w0 W) (hbase : base ≤ W.heap.size) (hl : xs.length + y.size ≤ 140737488355328)
    (h : ∀ v1 w1, (Kd.int .u8).R e w1 base ok v1 (xs ++ bytesOf y) → Below base w0 w1 → W.grownBy w1 v.ownBlock → (v1.ownBlock = v.ownBlock ∨ ∃ b, v1.ownBlock = some b ∧ W.heap.size ≤ b) → wpList P ops Q rest (a.put o.dst v1) w1) :
    wpList P ops Q (o :: rest) a W := by
  obtain ⟨i0, hi, hzz⟩ := Option.map_eq_some_iff.1 hinfo
  simp only [Prod.mk.injEq] at hzz
  obtain ⟨hz0, hz1, hz2⟩ := hzz
  have hown := Kd.own_of_R HO
  refine wpList_plain hgd fun K hK => ?_
  obtain ⟨v', w', hr, h2, h3, h4⟩ := run_append_str_at (P := P) (w := W) base t u o.type e i0 ht hu hi hz0 hz1 hz2 v xs.length _ hown y (by simp only [maxLen]; omega) hl hbase
  have hl2 : (xs ++ bytesOf y).length = xs.length + y.size := by rw [List.length_append, bytesOf_length]
  have hc : encs (Value.int .u8) (xs ++ bytesOf y) = encs (Value.int .u8) xs ++ Lib.strCells y := by
    simp [encs, bytesOf, Lib.strCells]
  have hR : (Kd.int .u8).R e w' base ok v' (xs ++ bytesOf y) := by
    refine Kd.R_of_own (h1 := fun _ => rfl) (by rw [hl2, hc]; exact h2) ?_
    intro k hk
    rcases h4 with h4 | ⟨b, h4, h5⟩
    · exact HO.1 k (by rw [← h4]; exact hk)
    · rw [h4] at hk
      injection hk with hk
      exact hk ▸ hfresh b h5
  unfold Oper.wp execOp
  simp only [ho, resolve, invoke, builtin, Sem.run_bind, Sem.run_pure, Result.andThen_ok, List.map_toArray, List.map_cons, List.map_nil, hs, hx, hr]
  exact hK _ _ (h v' w' hR (HB.grown h3 hbase (own_base hown)) h3 h4)
end
end Kd
end Go.Proofs.YtnilogameaaooaaW.PrintWords
/- By a program of this session's: a plain Lean function for a Go function, and its contract. -/
namespace Go.Proofs.Ytnilogameaaooaa.Q
open Go.RowKit Go.Proofs.YtnilogameaaooaaW.PrintWords Go.Proofs.YtnilogameaaooaaW.PrintLast Go.Proofs.YtnilogameaaooaaW.PrintMore
attribute [local go_sem] max2_int min2_int max_two min_two max_three min_three max_four min_four Go.Proofs.Ytnilogameaaooaa.Ord.str_leq Go.Proofs.Ytnilogameaaooaa.Ord.str_gtr Go.Proofs.Ytnilogameaaooaa.Ord.str_geq   -- for this text's walks alone
set_option linter.unusedVariables false
set_option linter.unusedSimpArgs false



def errW : Option Int → Value
  | none => .nilIface
  | some c => .iface 0 (.int .i64 c)
theorem errW_none : errW none = .nilIface := rfl
theorem errW_some (c : Int) : errW (some c) = .iface 0 (.int .i64 c) := rfl

theorem info5 : (Try.prog.info? 5).map (fun i => (i.zero, i.size, i.bytes)) = some (some (.int .u8 0), 1, 1) := by kernel_rfl
theorem info55 : (Try.prog.info? 55).map (fun i => (i.zero, i.size, i.bytes)) = some (some (.agg #[(.bool false), (.int .u64 0), (.string ⟨#[]⟩)]), 3, 32) := by kernel_rfl
theorem info78 : (Try.prog.info? 78).map (fun i => (i.zero, i.size, i.bytes)) = some (some (.agg #[(.bool false), (.int .u64 0), (.string ⟨#[]⟩)]), 3, 32) := by kernel_rfl
-- the values' own types
/-! #### struct type 55 -/
structure S55 where
  f0 : Bool
  f1 : Int
  f2 : ByteArray
def z55 : S55 := ⟨false, (0 : Int), (⟨#[]⟩ : ByteArray)⟩
def k55 : Kd S55 := Kd.iso (Kd.pair Kd.bool (Kd.pair (Kd.int .u64) Kd.string)) (fun x : S55 => (x.f0, x.f1, x.f2))
theorem k55_open {w : World} {x : S55} {cs : List Value} (h : k55.K w x cs) : cs = [.bool x.f0, .int .u64 x.f1, .string x.f2] := by
  obtain ⟨_, _, rfl, rfl, ⟨_, _, rfl, rfl, rfl⟩⟩ := h
  exact rfl
theorem k55_openM {w : World} {base : Nat} {ok : Nat → Prop} {x : S55} {cs : List Value} (h : k55.M w base ok x cs) : cs = [.bool x.f0, .int .u64 x.f1, .string x.f2] := by
  obtain ⟨_, _, rfl, rfl, ⟨_, _, rfl, rfl, rfl⟩⟩ := h
  exact rfl
theorem k55_mk (w : World) (x : S55)  : k55.K w x [.bool x.f0, .int .u64 x.f1, .string x.f2] := ⟨[.bool x.f0], [.int .u64 x.f1, .string x.f2], rfl, rfl, ⟨[.int .u64 x.f1], [.string x.f2], rfl, rfl, rfl⟩⟩
theorem k55_mkM (w : World) (base : Nat) (ok : Nat → Prop) (x : S55)  : k55.M w base ok x [.bool x.f0, .int .u64 x.f1, .string x.f2] := ⟨[.bool x.f0], [.int .u64 x.f1, .string x.f2], rfl, rfl, ⟨[.int .u64 x.f1], [.string x.f2], rfl, rfl, rfl⟩⟩
def rd_T55 (xs : List S55) (i : Int) : S55 := xs.getD i.toNat z55
theorem at_T55 {w : World} {A : Option Addr} {n : Nat} {xs : List S55} (h : Kd.C k55 w A n xs) (i : Int) (h0 : 0 ≤ i) (h1 : i < n) : ∃ ad , A = some ad ∧ w.cell? (ad.add (i.toNat * 3)) = some (.bool (rd_T55 xs i).f0) ∧ w.cell? ⟨(ad.add (i.toNat * 3)).block, (ad.add (i.toNat * 3)).off + 1, none⟩ = some (.int .u64 (rd_T55 xs i).f1) ∧ w.cell? ⟨(ad.add (i.toNat * 3)).block, (ad.add (i.toNat * 3)).off + 2, none⟩ = some (.string (rd_T55 xs i).f2) := by
  obtain ⟨ad, c, e, _, hK, hc0⟩ := Kd.C_get h z55 i h0 h1
  have hc : ∀ j u, c[j]? = some u → w.cell? (ad.add (i.toNat * 3 + j)) = some u := hc0
  obtain rfl := k55_open hK
  exact ⟨ad, e, hc 0 _ rfl, by rw [← add_field _ _ 1 (by omega)]; exact hc 1 _ rfl, by rw [← add_field _ _ 2 (by omega)]; exact hc 2 _ rfl⟩

def rd_L4 (xs : List (List S55)) (i : Int) : (List S55) := xs.getD i.toNat ([] : List S55)
theorem at_L4 {w : World} {A : Option Addr} {n : Nat} {xs : List (List S55)} (h : Kd.C (Kd.slice 55 k55) w A n xs) (i : Int) (h0 : 0 ≤ i) (h1 : i < n) : ∃ ad A0 c0, A = some ad ∧ w.cell? (ad.add i.toNat) = some (.slice A0 (rd_L4 xs i).length c0) ∧ (rd_L4 xs i).length ≤ c0 ∧ k55.C w A0 (rd_L4 xs i).length (rd_L4 xs i) := by
  obtain ⟨ad, c, e, _, hK, hc0⟩ := Kd.C_get h ([] : List S55) i h0 h1
  have hc : ∀ j u, c[j]? = some u → w.cell? (ad.add (i.toNat * 1 + j)) = some u := hc0
  obtain ⟨A0, c0, rfl, l0, g0⟩ := hK
  exact ⟨ad, A0, c0, e, by have hq := hc 0 _ rfl; rwa [Nat.mul_one, Nat.add_zero] at hq, l0, g0⟩

def rd_L6 (xs : List (List Int)) (i : Int) : (List Int) := xs.getD i.toNat ([] : List Int)
theorem at_L6 {w : World} {A : Option Addr} {n : Nat} {xs : List (List Int)} (h : Kd.C (Kd.slice 3 (Kd.int .i64)) w A n xs) (i : Int) (h0 : 0 ≤ i) (h1 : i < n) : ∃ ad A0 c0, A = some ad ∧ w.cell? (ad.add i.toNat) = some (.slice A0 (rd_L6 xs i).length c0) ∧ (rd_L6 xs i).length ≤ c0 ∧ (Kd.int .i64).C w A0 (rd_L6 xs i).length (rd_L6 xs i) := by
  obtain ⟨ad, c, e, _, hK, hc0⟩ := Kd.C_get h ([] : List Int) i h0 h1
  have hc : ∀ j u, c[j]? = some u → w.cell? (ad.add (i.toNat * 1 + j)) = some u := hc0
  obtain ⟨A0, c0, rfl, l0, g0⟩ := hK
  exact ⟨ad, A0, c0, e, by have hq := hc 0 _ rfl; rwa [Nat.mul_one, Nat.add_zero] at hq, l0, g0⟩

/-! #### struct type 60 -/
structure S60 where
  f0 : ByteArray
  f1 : ByteArray
  f2 : Int
  f3 : (List Int)
def z60 : S60 := ⟨(⟨#[]⟩ : ByteArray), (⟨#[]⟩ : ByteArray), (0 : Int), ([] : List Int)⟩
def k60 : Kd S60 := Kd.iso (Kd.pair Kd.string (Kd.pair Kd.string (Kd.pair (Kd.int .i64) (Kd.slice 3 (Kd.int .i64))))) (fun x : S60 => (x.f0, x.f1, x.f2, x.f3))
theorem k60_open {w : World} {x : S60} {cs : List Value} (h : k60.K w x cs) : ∃ A3 c3, cs = [.string x.f0, .string x.f1, .int .i64 x.f2, .slice A3 x.f3.length c3] ∧ x.f3.length ≤ c3 ∧ (Kd.int .i64).C w A3 x.f3.length x.f3 := by
  obtain ⟨_, _, rfl, rfl, ⟨_, _, rfl, rfl, ⟨_, _, rfl, rfl, ⟨A3, c3, rfl, l3, g3⟩⟩⟩⟩ := h
  exact ⟨A3, c3, rfl, l3, g3⟩
theorem k60_openM {w : World} {base : Nat} {ok : Nat → Prop} {x : S60} {cs : List Value} (h : k60.M w base ok x cs) : ∃ v3, cs = [.string x.f0, .string x.f1, .int .i64 x.f2, v3] ∧ (Kd.int .i64).R 3 w base ok v3 x.f3 := by
  obtain ⟨_, _, rfl, rfl, ⟨_, _, rfl, rfl, ⟨_, _, rfl, rfl, ⟨v3, rfl, g3⟩⟩⟩⟩ := h
  exact ⟨v3, rfl, g3⟩
theorem k60_mk (w : World) (x : S60) {A3 : Option Addr} {c3 : Nat} (l3 : x.f3.length ≤ c3) (g3 : (Kd.int .i64).C w A3 x.f3.length x.f3) : k60.K w x [.string x.f0, .string x.f1, .int .i64 x.f2, .slice A3 x.f3.length c3] := ⟨[.string x.f0], [.string x.f1, .int .i64 x.f2, .slice A3 x.f3.length c3], rfl, rfl, ⟨[.string x.f1], [.int .i64 x.f2, .slice A3 x.f3.length c3], rfl, rfl, ⟨[.int .i64 x.f2], [.slice A3 x.f3.length c3], rfl, rfl, ⟨A3, c3, rfl, l3, g3⟩⟩⟩⟩
theorem k60_mkM (w : World) (base : Nat) (ok : Nat → Prop) (x : S60) {v3 : Value} (g3 : (Kd.int .i64).R 3 w base ok v3 x.f3) : k60.M w base ok x [.string x.f0, .string x.f1, .int .i64 x.f2, v3] := ⟨[.string x.f0], [.string x.f1, .int .i64 x.f2, v3], rfl, rfl, ⟨[.string x.f1], [.int .i64 x.f2, v3], rfl, rfl, ⟨[.int .i64 x.f2], [v3], rfl, rfl, ⟨v3, rfl, g3⟩⟩⟩⟩
def rd_T60 (xs : List S60) (i : Int) : S60 := xs.getD i.toNat z60
theorem at_T60 {w : World} {A : Option Addr} {n : Nat} {xs : List S60} (h : Kd.C k60 w A n xs) (i : Int) (h0 : 0 ≤ i) (h1 : i < n) : ∃ ad A3 c3, A = some ad ∧ w.cell? (ad.add (i.toNat * 4)) = some (.string (rd_T60 xs i).f0) ∧ w.cell? ⟨(ad.add (i.toNat * 4)).block, (ad.add (i.toNat * 4)).off + 1, none⟩ = some (.string (rd_T60 xs i).f1) ∧ w.cell? ⟨(ad.add (i.toNat * 4)).block, (ad.add (i.toNat * 4)).off + 2, none⟩ = some (.int .i64 (rd_T60 xs i).f2) ∧ w.cell? ⟨(ad.add (i.toNat * 4)).block, (ad.add (i.toNat * 4)).off + 3, none⟩ = some (.slice A3 (rd_T60 xs i).f3.length c3) ∧ (rd_T60 xs i).f3.length ≤ c3 ∧ (Kd.int .i64).C w A3 (rd_T60 xs i).f3.length (rd_T60 xs i).f3 := by
  obtain ⟨ad, c, e, _, hK, hc0⟩ := Kd.C_get h z60 i h0 h1
  have hc : ∀ j u, c[j]? = some u → w.cell? (ad.add (i.toNat * 4 + j)) = some u := hc0
  obtain ⟨A3, c3, rfl, l3, g3⟩ := k60_open hK
  exact ⟨ad, A3, c3, e, hc 0 _ rfl, by rw [← add_field _ _ 1 (by omega)]; exact hc 1 _ rfl, by rw [← add_field _ _ 2 (by omega)]; exact hc 2 _ rfl, by rw [← add_field _ _ 3 (by omega)]; exact hc 3 _ rfl, l3, g3⟩

/-! #### struct type 66 -/
structure S66 where
  f0 : Bool
  f1 : ByteArray
def z66 : S66 := ⟨false, (⟨#[]⟩ : ByteArray)⟩
def k66 : Kd S66 := Kd.iso (Kd.pair Kd.bool Kd.string) (fun x : S66 => (x.f0, x.f1))
theorem k66_open {w : World} {x : S66} {cs : List Value} (h : k66.K w x cs) : cs = [.bool x.f0, .string x.f1] := by
  obtain ⟨_, _, rfl, rfl, rfl⟩ := h
  exact rfl
theorem k66_openM {w : World} {base : Nat} {ok : Nat → Prop} {x : S66} {cs : List Value} (h : k66.M w base ok x cs) : cs = [.bool x.f0, .string x.f1] := by
  obtain ⟨_, _, rfl, rfl, rfl⟩ := h
  exact rfl
theorem k66_mk (w : World) (x : S66)  : k66.K w x [.bool x.f0, .string x.f1] := ⟨[.bool x.f0], [.string x.f1], rfl, rfl, rfl⟩
theorem k66_mkM (w : World) (base : Nat) (ok : Nat → Prop) (x : S66)  : k66.M w base ok x [.bool x.f0, .string x.f1] := ⟨[.bool x.f0], [.string x.f1], rfl, rfl, rfl⟩
def rd_T66 (xs : List S66) (i : Int) : S66 := xs.getD i.toNat z66
theorem at_T66 {w : World} {A : Option Addr} {n : Nat} {xs : List S66} (h : Kd.C k66 w A n xs) (i : Int) (h0 : 0 ≤ i) (h1 : i < n) : ∃ ad , A = some ad ∧ w.cell? (ad.add (i.toNat * 2)) = some (.bool (rd_T66 xs i).f0) ∧ w.cell? ⟨(ad.add (i.toNat * 2)).block, (ad.add (i.toNat * 2)).off + 1, none⟩ = some (.string (rd_T66 xs i).f1) := by
  obtain ⟨ad, c, e, _, hK, hc0⟩ := Kd.C_get h z66 i h0 h1
  have hc : ∀ j u, c[j]? = some u → w.cell? (ad.add (i.toNat * 2 + j)) = some u := hc0
  obtain rfl := k66_open hK
  exact ⟨ad, e, hc 0 _ rfl, by rw [← add_field _ _ 1 (by omega)]; exact hc 1 _ rfl⟩

def rd_L9 (xs : List (List S66)) (i : Int) : (List S66) := xs.getD i.toNat ([] : List S66)
theorem at_L9 {w : World} {A : Option Addr} {n : Nat} {xs : List (List S66)} (h : Kd.C (Kd.slice 66 k66) w A n xs) (i : Int) (h0 : 0 ≤ i) (h1 : i < n) : ∃ ad A0 c0, A = some ad ∧ w.cell? (ad.add i.toNat) = some (.slice A0 (rd_L9 xs i).length c0) ∧ (rd_L9 xs i).length ≤ c0 ∧ k66.C w A0 (rd_L9 xs i).length (rd_L9 xs i) := by
  obtain ⟨ad, c, e, _, hK, hc0⟩ := Kd.C_get h ([] : List S66) i h0 h1
  have hc : ∀ j u, c[j]? = some u → w.cell? (ad.add (i.toNat * 1 + j)) = some u := hc0
  obtain ⟨A0, c0, rfl, l0, g0⟩ := hK
  exact ⟨ad, A0, c0, e, by have hq := hc 0 _ rfl; rwa [Nat.mul_one, Nat.add_zero] at hq, l0, g0⟩

/-! #### struct type 31 -/
structure S31 where
  f0 : Int
  f1 : Int
def z31 : S31 := ⟨(0 : Int), (0 : Int)⟩
def k31 : Kd S31 := Kd.iso (Kd.pair (Kd.int .i64) (Kd.int .i64)) (fun x : S31 => (x.f0, x.f1))
theorem k31_open {w : World} {x : S31} {cs : List Value} (h : k31.K w x cs) : cs = [.int .i64 x.f0, .int .i64 x.f1] := by
  obtain ⟨_, _, rfl, rfl, rfl⟩ := h
  exact rfl
theorem k31_openM {w : World} {base : Nat} {ok : Nat → Prop} {x : S31} {cs : List Value} (h : k31.M w base ok x cs) : cs = [.int .i64 x.f0, .int .i64 x.f1] := by
  obtain ⟨_, _, rfl, rfl, rfl⟩ := h
  exact rfl
theorem k31_mk (w : World) (x : S31)  : k31.K w x [.int .i64 x.f0, .int .i64 x.f1] := ⟨[.int .i64 x.f0], [.int .i64 x.f1], rfl, rfl, rfl⟩
theorem k31_mkM (w : World) (base : Nat) (ok : Nat → Prop) (x : S31)  : k31.M w base ok x [.int .i64 x.f0, .int .i64 x.f1] := ⟨[.int .i64 x.f0], [.int .i64 x.f1], rfl, rfl, rfl⟩
def rd_T31 (xs : List S31) (i : Int) : S31 := xs.getD i.toNat z31
theorem at_T31 {w : World} {A : Option Addr} {n : Nat} {xs : List S31} (h : Kd.C k31 w A n xs) (i : Int) (h0 : 0 ≤ i) (h1 : i < n) : ∃ ad , A = some ad ∧ w.cell? (ad.add (i.toNat * 2)) = some (.int .i64 (rd_T31 xs i).f0) ∧ w.cell? ⟨(ad.add (i.toNat * 2)).block, (ad.add (i.toNat * 2)).off + 1, none⟩ = some (.int .i64 (rd_T31 xs i).f1) := by
  obtain ⟨ad, c, e, _, hK, hc0⟩ := Kd.C_get h z31 i h0 h1
  have hc : ∀ j u, c[j]? = some u → w.cell? (ad.add (i.toNat * 2 + j)) = some u := hc0
  obtain rfl := k31_open hK
  exact ⟨ad, e, hc 0 _ rfl, by rw [← add_field _ _ 1 (by omega)]; exact hc 1 _ rfl⟩

/-! #### struct type 78 -/
structure S78 where
  f0 : Bool
  f1 : Int
  f2 : ByteArray
def z78 : S78 := ⟨false, (0 : Int), (⟨#[]⟩ : ByteArray)⟩
def k78 : Kd S78 := Kd.iso (Kd.pair Kd.bool (Kd.pair (Kd.int .u64) Kd.string)) (fun x : S78 => (x.f0, x.f1, x.f2))
theorem k78_open {w : World} {x : S78} {cs : List Value} (h : k78.K w x cs) : cs = [.bool x.f0, .int .u64 x.f1, .string x.f2] := by
  obtain ⟨_, _, rfl, rfl, ⟨_, _, rfl, rfl, rfl⟩⟩ := h
  exact rfl
theorem k78_openM {w : World} {base : Nat} {ok : Nat → Prop} {x : S78} {cs : List Value} (h : k78.M w base ok x cs) : cs = [.bool x.f0, .int .u64 x.f1, .string x.f2] := by
  obtain ⟨_, _, rfl, rfl, ⟨_, _, rfl, rfl, rfl⟩⟩ := h
  exact rfl
theorem k78_mk (w : World) (x : S78)  : k78.K w x [.bool x.f0, .int .u64 x.f1, .string x.f2] := ⟨[.bool x.f0], [.int .u64 x.f1, .string x.f2], rfl, rfl, ⟨[.int .u64 x.f1], [.string x.f2], rfl, rfl, rfl⟩⟩
theorem k78_mkM (w : World) (base : Nat) (ok : Nat → Prop) (x : S78)  : k78.M w base ok x [.bool x.f0, .int .u64 x.f1, .string x.f2] := ⟨[.bool x.f0], [.int .u64 x.f1, .string x.f2], rfl, rfl, ⟨[.int .u64 x.f1], [.string x.f2], rfl, rfl, rfl⟩⟩
def rd_T78 (xs : List S78) (i : Int) : S78 := xs.getD i.toNat z78
theorem at_T78 {w : World} {A : Option Addr} {n : Nat} {xs : List S78} (h : Kd.C k78 w A n xs) (i : Int) (h0 : 0 ≤ i) (h1 : i < n) : ∃ ad , A = some ad ∧ w.cell? (ad.add (i.toNat * 3)) = some (.bool (rd_T78 xs i).f0) ∧ w.cell? ⟨(ad.add (i.toNat * 3)).block, (ad.add (i.toNat * 3)).off + 1, none⟩ = some (.int .u64 (rd_T78 xs i).f1) ∧ w.cell? ⟨(ad.add (i.toNat * 3)).block, (ad.add (i.toNat * 3)).off + 2, none⟩ = some (.string (rd_T78 xs i).f2) := by
  obtain ⟨ad, c, e, _, hK, hc0⟩ := Kd.C_get h z78 i h0 h1
  have hc : ∀ j u, c[j]? = some u → w.cell? (ad.add (i.toNat * 3 + j)) = some u := hc0
  obtain rfl := k78_open hK
  exact ⟨ad, e, hc 0 _ rfl, by rw [← add_field _ _ 1 (by omega)]; exact hc 1 _ rfl, by rw [← add_field _ _ 2 (by omega)]; exact hc 2 _ rfl⟩

end Go.Proofs.Ytnilogameaaooaa.Q
/- By a program of this session's: a plain Lean function for a Go function, and its contract. -/
namespace Go.Proofs.Ytnilogameaaooaa.Q
open Go.RowKit Go.Proofs.YtnilogameaaooaaW.PrintWords Go.Proofs.YtnilogameaaooaaW.PrintLast Go.Proofs.YtnilogameaaooaaW.PrintMore
attribute [local go_sem] max2_int min2_int max_two min_two max_three min_three max_four min_four Go.Proofs.Ytnilogameaaooaa.Ord.str_leq Go.Proofs.Ytnilogameaaooaa.Ord.str_gtr Go.Proofs.Ytnilogameaaooaa.Ord.str_geq   -- for this text's walks alone
set_option linter.unusedVariables false
set_option linter.unusedSimpArgs false

/-! ### depotref03_Planned: function 34 -/
def depotref03_Planned.l0 : Nat → ByteArray → Int → Option (Int)
  | 0, _, _ => none
  | k + 1, x0, x3 => if x3 < (x0.size : Int) then (if 0 ≤ x3 then (if (bt x0 x3) = 105 then (depotref03_Planned.l0 k x0 (wrap64 (x3 + 1))) else (if (bt x0 x3) = 116 then (depotref03_Planned.l0 k x0 (wrap64 (x3 + 1))) else (some x3))) else (none)) else (some (-1))
def depotref03_Planned.f (k : Nat) (a0 : ByteArray) : Option (Int) := depotref03_Planned.l0 k a0 0
theorem depotref03_Planned.mono_l : ∀ k, (∀ y0 y1, LeO (depotref03_Planned.l0 k y0 y1) (depotref03_Planned.l0 (k + 1) y0 y1))
  | 0 => fun _ _ r h => by simp [depotref03_Planned.l0] at h
  | k + 1 => by
    have ih0 := depotref03_Planned.mono_l k
    · intro y0 y1
      unfold depotref03_Planned.l0
      repeat' first
      | (with_reducible exact ih0 _ _)
      | (with_reducible exact LeO.refl _)
      | (with_reducible exact LeO.none _)
      | (with_reducible refine LeO.ite ?_ ?_)
      | (with_reducible refine LeO.bind ?_ (fun _ => ?_))
      | exact ih0 _ _
      | exact LeO.none _
      | refine LeO.ite ?_ ?_
      | refine LeO.bind ?_ (fun _ => ?_)
theorem depotref03_Planned.mono : ∀ a0 k, LeO (depotref03_Planned.f k a0) (depotref03_Planned.f (k + 1) a0) := by
  intro a0 k
  have ih0 := depotref03_Planned.mono_l k
  unfold depotref03_Planned.f
  repeat' first
      | (with_reducible exact ih0 _ _)
      | (with_reducible exact LeO.refl _)
      | (with_reducible exact LeO.none _)
      | (with_reducible refine LeO.ite ?_ ?_)
      | (with_reducible refine LeO.bind ?_ (fun _ => ?_))
      | exact ih0 _ _
      | exact LeO.none _
      | refine LeO.ite ?_ ?_
      | refine LeO.bind ?_ (fun _ => ?_)
set_option maxHeartbeats 8000000 in
set_option maxRecDepth 100000 in
theorem depotref03_Planned.calls (k : Nat) (a0 : ByteArray) (r : Int) (w : World) (h : depotref03_Planned.f k a0 = some r) :
    Calls Try.prog 34 #[.string a0] w fun e w' => e = .returned (.int .i64 r) ∧ Drawn0 w w' := by
  have H : (depotref03_Planned.l0 k a0 0) = some r := h
  clear h
  have H' := Aside0.mk H
  clear H
  go_enter Try.func34, Try.ntmps34
  go_wp2
  go_loopg [3] k (fun kq v3 w' => ∃ (x3_1 : Int), v3 = .int .i64 x3_1 ∧ Aside0 (depotref03_Planned.l0 kq a0 x3_1 = some r) ∧ Aside0 (kq ≤ k) ∧ Drawn0 w w')
  case atStart => exact ⟨(0), (by first | rfl | (simp; done) | (simp [*]; done)), H', ⟨Nat.le_refl _⟩, by repeat (first | exact Drawn0.refl _ | apply Drawn0.step)⟩
  case round =>
    clear H'
    obtain ⟨x3_1, rfl, HA, HK1, ⟨m1, rfl⟩⟩ := hrel
    cases gk with
    | zero => exact absurd HA.out (by simp [depotref03_Planned.l0])
    | succ k1 =>
      have H := HA.out
      clear HA
      simp only [depotref03_Planned.l0] at H
      by_cases c2 : x3_1 < (a0.size : Int)
      · rw [if_pos c2] at H
        have c2b0 : decide (x3_1 < (a0.size : Int)) = true := decide_eq_true c2
        clear c2
        by_cases c3 : 0 ≤ x3_1
        · rw [if_pos c3] at H
          have c3b0 : decide (0 ≤ x3_1) = true := decide_eq_true c3
          clear c3
          by_cases c5 : (bt a0 x3_1) = 105
          · rw [if_pos c5] at H
            have c5b0 : ((bt a0 x3_1) == 105) = true := beq_iff_eq.mpr c5
            have c5b1 : ((bt a0 x3_1) != 105) = false := bne_eq_false_iff_eq.mpr c5
            clear c5
            have H' := Aside0.mk H
            clear H
            have p4 : 0 ≤ (x3_1 : Int) := of_decide_eq_true (by first | (with_reducible assumption) | assumption)
            have q4 : x3_1 < (a0.size : Int) := of_decide_eq_true (by first | (with_reducible assumption) | assumption)
            have hx4 := bt_at a0 x3_1
            replace p4 := eq_true p4
            replace q4 := eq_true q4
            go_wp2
            go_roundg k1
            case measure => have := HK1.out; omega
            case rel => exact ⟨(wrap64 (x3_1 + 1)), (by first | rfl | (simp; done) | (simp [*]; done)), H', ⟨by have := HK1.out; omega⟩, by repeat (first | exact Drawn0.refl _ | apply Drawn0.step)⟩
          · rw [if_neg c5] at H
            have c5b0 : ((bt a0 x3_1) == 105) = false := beq_eq_false_iff_ne.mpr c5
            have c5b1 : ((bt a0 x3_1) != 105) = true := bne_iff_ne.mpr c5
            by_cases c7 : (bt a0 x3_1) = 116
            · rw [if_pos c7] at H
              have c7b0 : ((bt a0 x3_1) == 116) = true := beq_iff_eq.mpr c7
              have c7b1 : ((bt a0 x3_1) != 116) = false := bne_eq_false_iff_eq.mpr c7
              clear c7
              have H' := Aside0.mk H
              clear H
              have p4 : 0 ≤ (x3_1 : Int) := of_decide_eq_true (by first | (with_reducible assumption) | assumption)
              have q4 : x3_1 < (a0.size : Int) := of_decide_eq_true (by first | (with_reducible assumption) | assumption)
              have hx4 := bt_at a0 x3_1
              replace p4 := eq_true p4
              replace q4 := eq_true q4
              have p6 : 0 ≤ (x3_1 : Int) := of_decide_eq_true (by first | (with_reducible assumption) | assumption)
              have q6 : x3_1 < (a0.size : Int) := of_decide_eq_true (by first | (with_reducible assumption) | assumption)
              have hx6 := bt_at a0 x3_1
              replace p6 := eq_true p6
              replace q6 := eq_true q6
              go_wp2
              go_roundg k1
              case measure => have := HK1.out; omega
              case rel => exact ⟨(wrap64 (x3_1 + 1)), (by first | rfl | (simp; done) | (simp [*]; done)), H', ⟨by have := HK1.out; omega⟩, by repeat (first | exact Drawn0.refl _ | apply Drawn0.step)⟩
            · rw [if_neg c7] at H
              have c7b0 : ((bt a0 x3_1) == 116) = false := beq_eq_false_iff_ne.mpr c7
              have c7b1 : ((bt a0 x3_1) != 116) = true := bne_iff_ne.mpr c7
              obtain rfl := Option.some.inj H
              have p4 : 0 ≤ (x3_1 : Int) := of_decide_eq_true (by first | (with_reducible assumption) | assumption)
              have q4 : x3_1 < (a0.size : Int) := of_decide_eq_true (by first | (with_reducible assumption) | assumption)
              have hx4 := bt_at a0 x3_1
              replace p4 := eq_true p4
              replace q4 := eq_true q4
              have p6 : 0 ≤ (x3_1 : Int) := of_decide_eq_true (by first | (with_reducible assumption) | assumption)
              have q6 : x3_1 < (a0.size : Int) := of_decide_eq_true (by first | (with_reducible assumption) | assumption)
              have hx6 := bt_at a0 x3_1
              replace p6 := eq_true p6
              replace q6 := eq_true q6
              go_wp2
              go_ret
              exact ⟨by first | rfl | (simp; done) | (simp [*]; done), by repeat (first | exact Drawn0.refl _ | apply Drawn0.step)⟩
        · rw [if_neg c3] at H
          exact absurd H (by simp)
      · rw [if_neg c2] at H
        have c2b0 : decide (x3_1 < (a0.size : Int)) = false := decide_eq_false c2
        clear c2
        obtain rfl := Option.some.inj H
        go_wp2
        go_ret
        exact ⟨by first | rfl | (simp; done) | (simp [*]; done), by repeat (first | exact Drawn0.refl _ | apply Drawn0.step)⟩

end Go.Proofs.Ytnilogameaaooaa.Q
/- By a program of this session's: a plain Lean function for a Go function, and its contract. -/
namespace Go.Proofs.Ytnilogameaaooaa.Q
open Go.RowKit Go.Proofs.YtnilogameaaooaaW.PrintWords Go.Proofs.YtnilogameaaooaaW.PrintLast Go.Proofs.YtnilogameaaooaaW.PrintMore
attribute [local go_sem] max2_int min2_int max_two min_two max_three min_three max_four min_four Go.Proofs.Ytnilogameaaooaa.Ord.str_leq Go.Proofs.Ytnilogameaaooaa.Ord.str_gtr Go.Proofs.Ytnilogameaaooaa.Ord.str_geq   -- for this text's walks alone
set_option linter.unusedVariables false
set_option linter.unusedSimpArgs false

/-! ### depotref03_Num: function 35 -/
def depotref03_Num.l0 : Nat → ByteArray → Int → Int → Int → Option (Int)
  | 0, _, _, _, _ => none
  | k + 1, x0, x1, x5, x6 => if x6 ≥ 0 then (if 0 ≤ (wrap64 (x1 + x6)) then (if (wrap64 (x1 + x6)) < (x0.size : Int) then (depotref03_Num.l0 k x0 x1 (IntKind.u64.wrap ((IntKind.u64.wrap (x5 * 256)) + (IntKind.u64.wrap (bt x0 (wrap64 (x1 + x6)))))) (wrap64 (x6 - 1))) else (none)) else (none)) else (some x5)
def depotref03_Num.f (k : Nat) (a0 : ByteArray) (a1 : Int) : Option (Int) := depotref03_Num.l0 k a0 a1 0 7
theorem depotref03_Num.mono_l : ∀ k, (∀ y0 y1 y2 y3, LeO (depotref03_Num.l0 k y0 y1 y2 y3) (depotref03_Num.l0 (k + 1) y0 y1 y2 y3))
  | 0 => fun _ _ _ _ r h => by simp [depotref03_Num.l0] at h
  | k + 1 => by
    have ih0 := depotref03_Num.mono_l k
    · intro y0 y1 y2 y3
      unfold depotref03_Num.l0
      repeat' first
      | (with_reducible exact ih0 _ _ _ _)
      | (with_reducible exact LeO.refl _)
      | (with_reducible exact LeO.none _)
      | (with_reducible refine LeO.ite ?_ ?_)
      | (with_reducible refine LeO.bind ?_ (fun _ => ?_))
      | exact ih0 _ _ _ _
      | exact LeO.none _
      | refine LeO.ite ?_ ?_
      | refine LeO.bind ?_ (fun _ => ?_)
theorem depotref03_Num.mono : ∀ a0 a1 k, LeO (depotref03_Num.f k a0 a1) (depotref03_Num.f (k + 1) a0 a1) := by
  intro a0 a1 k
  have ih0 := depotref03_Num.mono_l k
  unfold depotref03_Num.f
  repeat' first
      | (with_reducible exact ih0 _ _ _ _)
      | (with_reducible exact LeO.refl _)
      | (with_reducible exact LeO.none _)
      | (with_reducible refine LeO.ite ?_ ?_)
      | (with_reducible refine LeO.bind ?_ (fun _ => ?_))
      | exact ih0 _ _ _ _
      | exact LeO.none _
      | refine LeO.ite ?_ ?_
      | refine LeO.bind ?_ (fun _ => ?_)
set_option maxHeartbeats 8000000 in
set_option maxRecDepth 100000 in
theorem depotref03_Num.calls (k : Nat) (a0 : ByteArray) (a1 : Int) (r : Int) (w : World) (h : depotref03_Num.f k a0 a1 = some r) :
    Calls Try.prog 35 #[.string a0, .int .i64 a1] w fun e w' => e = .returned (.int .u64 r) ∧ Drawn0 w w' := by
  have H : (depotref03_Num.l0 k a0 a1 0 7) = some r := h
  clear h
  have H' := Aside0.mk H
  clear H
  go_enter Try.func35, Try.ntmps35
  go_wp2
  go_loopg [5, 6] k (fun kq v5 v6 w' => ∃ (x5_1 : Int) (x6_1 : Int), v5 = .int .u64 x5_1 ∧ v6 = .int .i64 x6_1 ∧ Aside0 (depotref03_Num.l0 kq a0 a1 x5_1 x6_1 = some r) ∧ Aside0 (kq ≤ k) ∧ Drawn0 w w')
  case atStart => exact ⟨(0), (7), (by first | rfl | (simp; done) | (simp [*]; done)), (by first | rfl | (simp; done) | (simp [*]; done)), H', ⟨Nat.le_refl _⟩, by repeat (first | exact Drawn0.refl _ | apply Drawn0.step)⟩
  case round =>
    clear H'
    try clear p2
    obtain ⟨x5_1, x6_1, rfl, rfl, HA, HK1, ⟨m1, rfl⟩⟩ := hrel
    cases gk with
    | zero => exact absurd HA.out (by simp [depotref03_Num.l0])
    | succ k1 =>
      have H := HA.out
      clear HA
      simp only [depotref03_Num.l0] at H
      by_cases c3 : x6_1 ≥ 0
      · rw [if_pos c3] at H
        have c3b0 : decide (0 ≤ x6_1) = true := decide_eq_true c3
        clear c3
        obtain ⟨ji4, hji4⟩ : ∃ j_ : Int, (wrap64 (a1 + x6_1)) = j_ := ⟨_, rfl⟩
        replace H : (if 0 ≤ (ji4) then (if (ji4) < (a0.size : Int) then (depotref03_Num.l0 k1 a0 a1 (IntKind.u64.wrap ((IntKind.u64.wrap (x5_1 * 256)) + (IntKind.u64.wrap (bt a0 (ji4))))) (wrap64 (x6_1 - 1))) else (none)) else (none)) = some r := by first | (rw [hji4] at H; exact H) | (simp only [hji4] at H ⊢; exact H)
        have hji4w : (IntKind.i64.wrap (a1 + x6_1)) = ji4 := (i64_w _).trans hji4
        by_cases c5 : 0 ≤ (ji4)
        · rw [if_pos c5] at H
          have c5b0 : decide (0 ≤ (ji4)) = true := decide_eq_true c5
          clear c5
          by_cases c6 : (ji4) < (a0.size : Int)
          · rw [if_pos c6] at H
            have c6b0 : decide ((ji4) < (a0.size : Int)) = true := decide_eq_true c6
            clear c6
            have H' := Aside0.mk H
            clear H
            have p7 : 0 ≤ ((ji4) : Int) := of_decide_eq_true (by first | (with_reducible assumption) | assumption)
            have q7 : (ji4) < (a0.size : Int) := of_decide_eq_true (by first | (with_reducible assumption) | assumption)
            have hx7 := bt_at a0 (ji4)
            replace p7 := eq_true p7
            replace q7 := eq_true q7
            go_wp2
            go_roundg k1
            case measure => have := HK1.out; omega
            case rel => exact ⟨(IntKind.u64.wrap ((IntKind.u64.wrap (x5_1 * 256)) + (IntKind.u64.wrap (bt a0 (ji4))))), (wrap64 (x6_1 - 1)), (by first | rfl | (simp; done) | (simp only [← hji4] <;> (first | rfl | simp)) | (simp [*]; done)), (by first | rfl | (simp; done) | (simp [*]; done)), H', ⟨by have := HK1.out; omega⟩, by repeat (first | exact Drawn0.refl _ | apply Drawn0.step)⟩
          · rw [if_neg c6] at H
            exact absurd H (by simp)
        · rw [if_neg c5] at H
          exact absurd H (by simp)
      · rw [if_neg c3] at H
        have c3b0 : decide (0 ≤ x6_1) = false := decide_eq_false c3
        clear c3
        obtain rfl := Option.some.inj H
        go_wp2
        go_ret
        exact ⟨by first | rfl | (simp; done) | (simp [*]; done), by repeat (first | exact Drawn0.refl _ | apply Drawn0.step)⟩

end Go.Proofs.Ytnilogameaaooaa.Q
/- By a program of this session's: a plain Lean function for a Go function, and its contract. -/
namespace Go.Proofs.Ytnilogameaaooaa.Q
open Go.RowKit Go.Proofs.YtnilogameaaooaaW.PrintWords Go.Proofs.YtnilogameaaooaaW.PrintLast Go.Proofs.YtnilogameaaooaaW.PrintMore
attribute [local go_sem] max2_int min2_int max_two min_two max_three min_three max_four min_four Go.Proofs.Ytnilogameaaooaa.Ord.str_leq Go.Proofs.Ytnilogameaaooaa.Ord.str_gtr Go.Proofs.Ytnilogameaaooaa.Ord.str_geq   -- for this text's walks alone
set_option linter.unusedVariables false
set_option linter.unusedSimpArgs false

/-! ### depotref03_OneText: function 36 -/
def depotref03_OneText.l0 : Nat → ByteArray → Int → Int → Int → Int → Option (ByteArray × Int × Int × Int × Int)
  | 0, _, _, _, _, _ => none
  | k + 1, x0, x1, x12, x13, x14 => if x14 < (wrap64 (x12 + (Int.tmod (wrap64 (8 - (Int.tmod x12 8))) 8))) then (if x14 < x13 then (if 0 ≤ (wrap64 ((wrap64 (x1 + 8)) + x14)) then (if (wrap64 ((wrap64 (x1 + 8)) + x14)) < (x0.size : Int) then (if (bt x0 (wrap64 ((wrap64 (x1 + 8)) + x14))) = 0 then (depotref03_OneText.l0 k x0 x1 x12 x13 (wrap64 (x14 + 1))) else (some ((⟨#[]⟩ : ByteArray), (-1), 7, wrap64 ((wrap64 (x1 + 8)) + x14), wrap64 ((wrap64 (x1 + 8)) + x14)))) else (none)) else (none)) else (depotref03_OneText.l0 k x0 x1 x12 x13 (wrap64 (x14 + 1)))) else (if x13 < x12 then (some ((⟨#[]⟩ : ByteArray), (-1), 0, 0, (x0.size : Int))) else (if (wrap64 (x13 - x12)) < (Int.tmod (wrap64 (8 - (Int.tmod x12 8))) 8) then (some ((⟨#[]⟩ : ByteArray), (-1), 0, 0, (x0.size : Int))) else (if 0 ≤ (wrap64 (x1 + 8)) then (if (wrap64 (x1 + 8)) ≤ (wrap64 ((wrap64 (x1 + 8)) + x12)) then (if (wrap64 ((wrap64 (x1 + 8)) + x12)) ≤ (x0.size : Int) then (some (x0.extract ((wrap64 (x1 + 8)) : Int).toNat ((wrap64 ((wrap64 (x1 + 8)) + x12)) : Int).toNat, wrap64 ((wrap64 ((wrap64 (x1 + 8)) + x12)) + (Int.tmod (wrap64 (8 - (Int.tmod x12 8))) 8)), 0, 0, 0)) else (none)) else (none)) else (none))))
def depotref03_OneText.f (k : Nat) (a0 : ByteArray) (a1 : Int) (a2 : Int) : Option (ByteArray × Int × Int × Int × Int) := if a1 > (wrap64 ((a0.size : Int) - 8)) then (some ((⟨#[]⟩ : ByteArray), (-1), 0, 0, (a0.size : Int))) else ((depotref03_Num.f k a0 a1).bind fun t135 => (if t135 > (IntKind.u64.wrap (a2)) then (some ((⟨#[]⟩ : ByteArray), (-1), 6, a1, wrap64 (a1 + 7))) else (depotref03_OneText.l0 k a0 a1 (wrap64 (t135)) (wrap64 ((wrap64 ((a0.size : Int) - a1)) - 8)) (wrap64 (t135)))))
theorem depotref03_OneText.mono_l : ∀ k, (∀ y0 y1 y2 y3 y4, LeO (depotref03_OneText.l0 k y0 y1 y2 y3 y4) (depotref03_OneText.l0 (k + 1) y0 y1 y2 y3 y4))
  | 0 => fun _ _ _ _ _ r h => by simp [depotref03_OneText.l0] at h
  | k + 1 => by
    have ih0 := depotref03_OneText.mono_l k
    · intro y0 y1 y2 y3 y4
      unfold depotref03_OneText.l0
      repeat' first
      | (with_reducible exact ih0 _ _ _ _ _)
      | (with_reducible exact depotref03_Num.mono _ _ _)
      | (with_reducible exact LeO.refl _)
      | (with_reducible exact LeO.none _)
      | (with_reducible refine LeO.ite ?_ ?_)
      | (with_reducible refine LeO.bind ?_ (fun _ => ?_))
      | exact ih0 _ _ _ _ _
      | exact depotref03_Num.mono _ _ _
      | exact LeO.none _
      | refine LeO.ite ?_ ?_
      | refine LeO.bind ?_ (fun _ => ?_)
theorem depotref03_OneText.mono : ∀ a0 a1 a2 k, LeO (depotref03_OneText.f k a0 a1 a2) (depotref03_OneText.f (k + 1) a0 a1 a2) := by
  intro a0 a1 a2 k
  have ih0 := depotref03_OneText.mono_l k
  unfold depotref03_OneText.f
  repeat' first
      | (with_reducible exact ih0 _ _ _ _ _)
      | (with_reducible exact depotref03_Num.mono _ _ _)
      | (with_reducible exact LeO.refl _)
      | (with_reducible exact LeO.none _)
      | (with_reducible refine LeO.ite ?_ ?_)
      | (with_reducible refine LeO.bind ?_ (fun _ => ?_))
      | exact ih0 _ _ _ _ _
      | exact depotref03_Num.mono _ _ _
      | exact LeO.none _
      | refine LeO.ite ?_ ?_
      | refine LeO.bind ?_ (fun _ => ?_)
set_option maxHeartbeats 8000000 in
set_option maxRecDepth 100000 in
theorem depotref03_OneText.calls (k : Nat) (a0 : ByteArray) (a1 : Int) (a2 : Int) (r1 : ByteArray) (r2 : Int) (r3 : Int) (r4 : Int) (r5 : Int) (w : World) (h : depotref03_OneText.f k a0 a1 a2 = some (r1, r2, r3, r4, r5)) :
    Calls Try.prog 36 #[.string a0, .int .i64 a1, .int .i64 a2] w fun e w' => e = .returned (.tuple #[.string r1, .int .i64 r2, .int .i64 r3, .int .i64 r4, .int .i64 r5]) ∧ Drawn0 w w' := by
  have H : (if a1 > (wrap64 ((a0.size : Int) - 8)) then (some ((⟨#[]⟩ : ByteArray), (-1), 0, 0, (a0.size : Int))) else ((depotref03_Num.f k a0 a1).bind fun t135 => (if t135 > (IntKind.u64.wrap (a2)) then (some ((⟨#[]⟩ : ByteArray), (-1), 6, a1, wrap64 (a1 + 7))) else (depotref03_OneText.l0 k a0 a1 (wrap64 (t135)) (wrap64 ((wrap64 ((a0.size : Int) - a1)) - 8)) (wrap64 (t135)))))) = some (r1, r2, r3, r4, r5) := h
  clear h
  by_cases c4 : a1 > (wrap64 ((a0.size : Int) - 8))
  · rw [if_pos c4] at H
    have c4b0 : decide ((wrap64 ((a0.size : Int) - 8)) < a1) = true := decide_eq_true c4
    clear c4
    simp only [Option.some.injEq, Prod.mk.injEq] at H
    obtain ⟨rfl, rfl, rfl, rfl, rfl⟩ := H
    go_enter Try.func36, Try.ntmps36
    go_wp2
    refine bodyPost_ret (results_list (rs := [.tmp 6, .tmp 7, .tmp 8, .tmp 9, .tmp 10]) rfl (by simp) (.tmp (.tmp (.tmp (.tmp (.tmp .nil)))))) rfl ?_
    exact ⟨by first | rfl | (simp; done) | (simp [*]; done), by repeat (first | exact Drawn0.refl _ | apply Drawn0.step)⟩
  · rw [if_neg c4] at H
    have c4b0 : decide ((wrap64 ((a0.size : Int) - 8)) < a1) = false := decide_eq_false c4
    clear c4
    replace H := Option.bind_eq_some_iff.mp H
    obtain ⟨t135, A50, H⟩ := H
    replace H : (if t135 > (IntKind.u64.wrap (a2)) then (some ((⟨#[]⟩ : ByteArray), (-1), 6, a1, wrap64 (a1 + 7))) else (depotref03_OneText.l0 k a0 a1 (wrap64 (t135)) (wrap64 ((wrap64 ((a0.size : Int) - a1)) - 8)) (wrap64 (t135)))) = some (r1, r2, r3, r4, r5) := H
    have A5 := Aside0.mk A50
    clear A50
    by_cases c6 : t135 > (IntKind.u64.wrap (a2))
    · rw [if_pos c6] at H
      have c6b0 : decide ((IntKind.u64.wrap (a2)) < t135) = true := decide_eq_true c6
      clear c6
      simp only [Option.some.injEq, Prod.mk.injEq] at H
      obtain ⟨rfl, rfl, rfl, rfl, rfl⟩ := H
      go_enter Try.func36, Try.ntmps36
      go_wp2_with (first | ((with_reducible refine gate_callee (f := 35) rfl ?_); refine goesL_ (some 24) rfl rfl Try.func35 (by kernel_rfl) rfl #[.string a0, .int .i64 a1] rfl (by (try simp only [List.map_toArray, List.map_cons, List.map_nil]); first | done | rfl | (simp only [List.length_drop, List.length_take]; rfl)) ?_; (with_reducible refine (depotref03_Num.calls k a0 a1 t135 _ A5.out).mono ?_); rintro e w' ⟨rfl, ⟨nd, rfl⟩⟩; refine ⟨_, rfl, ?_⟩))
      refine bodyPost_ret (results_list (rs := [.tmp 6, .tmp 7, .tmp 8, .tmp 9, .tmp 10]) rfl (by simp) (.tmp (.tmp (.tmp (.tmp (.tmp .nil)))))) rfl ?_
      exact ⟨by first | rfl | (simp; done) | (simp [*]; done), by repeat (first | exact Drawn0.refl _ | apply Drawn0.step)⟩
    · rw [if_neg c6] at H
      have c6b0 : decide ((IntKind.u64.wrap (a2)) < t135) = false := decide_eq_false c6
      clear c6
      have H' := Aside0.mk H
      clear H
      go_enter Try.func36, Try.ntmps36
      go_wp2_with (first | ((with_reducible refine gate_callee (f := 35) rfl ?_); refine goesL_ (some 24) rfl rfl Try.func35 (by kernel_rfl) rfl #[.string a0, .int .i64 a1] rfl (by (try simp only [List.map_toArray, List.map_cons, List.map_nil]); first | done | rfl | (simp only [List.length_drop, List.length_take]; rfl)) ?_; (with_reducible refine (depotref03_Num.calls k a0 a1 t135 _ A5.out).mono ?_); rintro e w' ⟨rfl, ⟨nd, rfl⟩⟩; refine ⟨_, rfl, ?_⟩))
      go_loopg [14] k (fun kq v14 w' => ∃ (x14_1 : Int), v14 = .int .i64 x14_1 ∧ Aside0 (depotref03_OneText.l0 kq a0 a1 (wrap64 (t135)) (wrap64 ((wrap64 ((a0.size : Int) - a1)) - 8)) x14_1 = some (r1, r2, r3, r4, r5)) ∧ Aside0 (kq ≤ k) ∧ Drawn0 w w')
      case atStart => exact ⟨(wrap64 (t135)), (by first | rfl | (simp; done) | (simp [*]; done)), H', ⟨Nat.le_refl _⟩, by repeat (first | exact Drawn0.refl _ | apply Drawn0.step)⟩
      case round =>
        clear H'
        try clear p2
        try clear c3
        try clear c4
        try clear c4b0
        try clear c6
        try clear c6b0
        try clear p6
        obtain ⟨x14_1, rfl, HA, HK1, ⟨m1, rfl⟩⟩ := hrel
        cases gk with
        | zero => exact absurd HA.out (by simp [depotref03_OneText.l0])
        | succ k1 =>
          have H := HA.out
          clear HA
          simp only [depotref03_OneText.l0] at H
          by_cases c7 : x14_1 < (wrap64 ((wrap64 (t135)) + (Int.tmod (wrap64 (8 - (Int.tmod (wrap64 (t135)) 8))) 8)))
          · rw [if_pos c7] at H
            have c7b0 : decide (x14_1 < (wrap64 ((wrap64 (t135)) + (Int.tmod (wrap64 (8 - (Int.tmod (wrap64 (t135)) 8))) 8)))) = true := decide_eq_true c7
            clear c7
            by_cases c8 : x14_1 < (wrap64 ((wrap64 ((a0.size : Int) - a1)) - 8))
            · rw [if_pos c8] at H
              have c8b0 : decide (x14_1 < (wrap64 ((wrap64 ((a0.size : Int) - a1)) - 8))) = true := decide_eq_true c8
              clear c8
              obtain ⟨ji9, hji9⟩ : ∃ j_ : Int, (wrap64 ((wrap64 (a1 + 8)) + x14_1)) = j_ := ⟨_, rfl⟩
              replace H : (if 0 ≤ (ji9) then (if (ji9) < (a0.size : Int) then (if (bt a0 (ji9)) = 0 then (depotref03_OneText.l0 k1 a0 a1 (wrap64 (t135)) (wrap64 ((wrap64 ((a0.size : Int) - a1)) - 8)) (wrap64 (x14_1 + 1))) else (some ((⟨#[]⟩ : ByteArray), (-1), 7, ji9, ji9))) else (none)) else (none)) = some (r1, r2, r3, r4, r5) := by first | (rw [hji9] at H; exact H) | (simp only [hji9] at H ⊢; exact H)
              have hji9w : (IntKind.i64.wrap ((wrap64 (a1 + 8)) + x14_1)) = ji9 := (i64_w _).trans hji9
              by_cases c10 : 0 ≤ (ji9)
              · rw [if_pos c10] at H
                have c10b0 : decide (0 ≤ (ji9)) = true := decide_eq_true c10
                clear c10
                by_cases c11 : (ji9) < (a0.size : Int)
                · rw [if_pos c11] at H
                  have c11b0 : decide ((ji9) < (a0.size : Int)) = true := decide_eq_true c11
                  clear c11
                  by_cases c13 : (bt a0 (ji9)) = 0
                  · rw [if_pos c13] at H
                    have c13b0 : ((bt a0 (ji9)) == 0) = true := beq_iff_eq.mpr c13
                    have c13b1 : ((bt a0 (ji9)) != 0) = false := bne_eq_false_iff_eq.mpr c13
                    clear c13
                    have H' := Aside0.mk H
                    clear H
                    have p12 : 0 ≤ ((ji9) : Int) := of_decide_eq_true (by first | (with_reducible assumption) | assumption)
                    have q12 : (ji9) < (a0.size : Int) := of_decide_eq_true (by first | (with_reducible assumption) | assumption)
                    have hx12 := bt_at a0 (ji9)
                    replace p12 := eq_true p12
                    replace q12 := eq_true q12
                    go_wp2
                    go_roundg k1
                    case measure => have := HK1.out; omega
                    case rel => exact ⟨(wrap64 (x14_1 + 1)), (by first | rfl | (simp; done) | (simp [*]; done)), H', ⟨by have := HK1.out; omega⟩, by repeat (first | exact Drawn0.refl _ | apply Drawn0.step)⟩
                  · rw [if_neg c13] at H
                    have c13b0 : ((bt a0 (ji9)) == 0) = false := beq_eq_false_iff_ne.mpr c13
                    have c13b1 : ((bt a0 (ji9)) != 0) = true := bne_iff_ne.mpr c13
                    simp only [Option.some.injEq, Prod.mk.injEq] at H
                    obtain ⟨rfl, rfl, rfl, rfl, rfl⟩ := H
                    have p12 : 0 ≤ ((ji9) : Int) := of_decide_eq_true (by first | (with_reducible assumption) | assumption)
                    have q12 : (ji9) < (a0.size : Int) := of_decide_eq_true (by first | (with_reducible assumption) | assumption)
                    have hx12 := bt_at a0 (ji9)
                    replace p12 := eq_true p12
                    replace q12 := eq_true q12
                    go_wp2
                    refine bodyPost_ret (results_list (rs := [.tmp 6, .tmp 7, .tmp 8, .tmp 9, .tmp 10]) rfl (by simp) (.tmp (.tmp (.tmp (.tmp (.tmp .nil)))))) rfl ?_
                    exact ⟨by first | rfl | (simp; done) | (simp only [← hji9] <;> (first | rfl | simp)) | (simp [*]; done), by repeat (first | exact Drawn0.refl _ | apply Drawn0.step)⟩
                · rw [if_neg c11] at H
                  exact absurd H (by simp)
              · rw [if_neg c10] at H
                exact absurd H (by simp)
            · rw [if_neg c8] at H
              have c8b0 : decide (x14_1 < (wrap64 ((wrap64 ((a0.size : Int) - a1)) - 8))) = false := decide_eq_false c8
              clear c8
              have H' := Aside0.mk H
              clear H
              go_wp2
              go_roundg k1
              case measure => have := HK1.out; omega
              case rel => exact ⟨(wrap64 (x14_1 + 1)), (by first | rfl | (simp; done) | (simp [*]; done)), H', ⟨by have := HK1.out; omega⟩, by repeat (first | exact Drawn0.refl _ | apply Drawn0.step)⟩
          · rw [if_neg c7] at H
            have c7b0 : decide (x14_1 < (wrap64 ((wrap64 (t135)) + (Int.tmod (wrap64 (8 - (Int.tmod (wrap64 (t135)) 8))) 8)))) = false := decide_eq_false c7
            clear c7
            by_cases c14 : (wrap64 ((wrap64 ((a0.size : Int) - a1)) - 8)) < (wrap64 (t135))
            · rw [if_pos c14] at H
              have c14b0 : decide ((wrap64 ((wrap64 ((a0.size : Int) - a1)) - 8)) < (wrap64 (t135))) = true := decide_eq_true c14
              clear c14
              simp only [Option.some.injEq, Prod.mk.injEq] at H
              obtain ⟨rfl, rfl, rfl, rfl, rfl⟩ := H
              go_wp2
              refine bodyPost_ret (results_list (rs := [.tmp 6, .tmp 7, .tmp 8, .tmp 9, .tmp 10]) rfl (by simp) (.tmp (.tmp (.tmp (.tmp (.tmp .nil)))))) rfl ?_
              exact ⟨by first | rfl | (simp; done) | (simp [*]; done), by repeat (first | exact Drawn0.refl _ | apply Drawn0.step)⟩
            · rw [if_neg c14] at H
              have c14b0 : decide ((wrap64 ((wrap64 ((a0.size : Int) - a1)) - 8)) < (wrap64 (t135))) = false := decide_eq_false c14
              clear c14
              by_cases c15 : (wrap64 ((wrap64 ((wrap64 ((a0.size : Int) - a1)) - 8)) - (wrap64 (t135)))) < (Int.tmod (wrap64 (8 - (Int.tmod (wrap64 (t135)) 8))) 8)
              · rw [if_pos c15] at H
                have c15b0 : decide ((wrap64 ((wrap64 ((wrap64 ((a0.size : Int) - a1)) - 8)) - (wrap64 (t135)))) < (Int.tmod (wrap64 (8 - (Int.tmod (wrap64 (t135)) 8))) 8)) = true := decide_eq_true c15
                clear c15
                simp only [Option.some.injEq, Prod.mk.injEq] at H
                obtain ⟨rfl, rfl, rfl, rfl, rfl⟩ := H
                go_wp2
                refine bodyPost_ret (results_list (rs := [.tmp 6, .tmp 7, .tmp 8, .tmp 9, .tmp 10]) rfl (by simp) (.tmp (.tmp (.tmp (.tmp (.tmp .nil)))))) rfl ?_
                exact ⟨by first | rfl | (simp; done) | (simp [*]; done), by repeat (first | exact Drawn0.refl _ | apply Drawn0.step)⟩
              · rw [if_neg c15] at H
                have c15b0 : decide ((wrap64 ((wrap64 ((wrap64 ((a0.size : Int) - a1)) - 8)) - (wrap64 (t135)))) < (Int.tmod (wrap64 (8 - (Int.tmod (wrap64 (t135)) 8))) 8)) = false := decide_eq_false c15
                clear c15
                obtain ⟨ji16, hji16⟩ : ∃ j_ : Int, (wrap64 (a1 + 8)) = j_ := ⟨_, rfl⟩
                replace H : (if 0 ≤ (ji16) then (if (ji16) ≤ (wrap64 ((ji16) + (wrap64 (t135)))) then (if (wrap64 ((ji16) + (wrap64 (t135)))) ≤ (a0.size : Int) then (some (a0.extract ((ji16) : Int).toNat ((wrap64 ((ji16) + (wrap64 (t135)))) : Int).toNat, wrap64 ((wrap64 ((ji16) + (wrap64 (t135)))) + (Int.tmod (wrap64 (8 - (Int.tmod (wrap64 (t135)) 8))) 8)), 0, 0, 0)) else (none)) else (none)) else (none)) = some (r1, r2, r3, r4, r5) := by first | (rw [hji16] at H; exact H) | (simp only [hji16] at H ⊢; exact H)
                have hji16w : (IntKind.i64.wrap (a1 + 8)) = ji16 := (i64_w _).trans hji16
                by_cases c17 : 0 ≤ (ji16)
                · rw [if_pos c17] at H
                  have c17b0 := eq_true c17
                  have c17b1 : decide (0 ≤ (ji16)) = true := decide_eq_true c17
                  clear c17
                  by_cases c18 : (ji16) ≤ (wrap64 ((ji16) + (wrap64 (t135))))
                  · rw [if_pos c18] at H
                    have c18b0 := eq_true c18
                    have c18b1 : decide ((ji16) ≤ (wrap64 ((ji16) + (wrap64 (t135))))) = true := decide_eq_true c18
                    by_cases c19 : (wrap64 ((ji16) + (wrap64 (t135)))) ≤ (a0.size : Int)
                    · rw [if_pos c19] at H
                      have c19b0 := eq_true c19
                      have c19b1 : decide ((wrap64 ((ji16) + (wrap64 (t135)))) ≤ (a0.size : Int)) = true := decide_eq_true c19
                      simp only [Option.some.injEq, Prod.mk.injEq] at H
                      obtain ⟨rfl, rfl, rfl, rfl, rfl⟩ := H
                      go_wp2
                      refine bodyPost_ret (results_list (rs := [.tmp 6, .tmp 7, .tmp 8, .tmp 9, .tmp 10]) rfl (by simp) (.tmp (.tmp (.tmp (.tmp (.tmp .nil)))))) rfl ?_
                      exact ⟨by first | rfl | (simp; done) | (simp only [← hji16] <;> (first | rfl | simp)) | (simp [*]; done), by repeat (first | exact Drawn0.refl _ | apply Drawn0.step)⟩
                    · rw [if_neg c19] at H
                      exact absurd H (by simp)
                  · rw [if_neg c18] at H
                    exact absurd H (by simp)
                · rw [if_neg c17] at H
                  exact absurd H (by simp)

end Go.Proofs.Ytnilogameaaooaa.Q
/- By a program of this session's: a plain Lean function for a Go function, and its contract. -/
namespace Go.Proofs.Ytnilogameaaooaa.Q
open Go.RowKit Go.Proofs.YtnilogameaaooaaW.PrintWords Go.Proofs.YtnilogameaaooaaW.PrintLast Go.Proofs.YtnilogameaaooaaW.PrintMore
attribute [local go_sem] max2_int min2_int max_two min_two max_three min_three max_four min_four Go.Proofs.Ytnilogameaaooaa.Ord.str_leq Go.Proofs.Ytnilogameaaooaa.Ord.str_gtr Go.Proofs.Ytnilogameaaooaa.Ord.str_geq   -- for this text's walks alone
set_option linter.unusedVariables false
set_option linter.unusedSimpArgs false

/-! ### depotref03_Read: function 20 -/
mutual
def depotref03_Read.j0 : Nat → ByteArray → ByteArray → Int → Option ((List (S78)) × Int × Int × Int)
  | 0, _, _, _ => none
  | k + 1, x0, x1, x2 => (depotref03_Planned.f k x1).bind fun t137 => (if t137 ≥ 0 then (some (([] : List (S78)), 30, t137, 0)) else (depotref03_Read.l0 k x0 x1 x2 0 0 ([] : List (S78)) 0 0 0))
def depotref03_Read.l0 : Nat → ByteArray → ByteArray → Int → Int → Int → List (S78) → Int → Int → Int → Option ((List (S78)) × Int × Int × Int)
  | 0, _, _, _, _, _, _, _, _, _ => none
  | k + 1, x0, x1, x2, x9, x10, x139000, x139001, x139002, x139003 => if x10 < (x1.size : Int) then (if 0 ≤ x10 then (if (bt x1 x10) = 105 then (if x9 > (wrap64 ((x0.size : Int) - 8)) then (some (x139000, x139001, x139002, (x0.size : Int))) else ((depotref03_Num.f k x0 x9).bind fun t139 => (if x139000.length < 4398046511104 then (depotref03_Read.l0 k x0 x1 x2 (wrap64 (x9 + 8)) (wrap64 (x10 + 1)) (x139000 ++ [(⟨true, t139, (⟨#[]⟩ : ByteArray)⟩ : S78)]) x139001 x139002 x139003) else (none)))) else ((depotref03_OneText.f k x0 x9 x2).bind fun bt143 => (if bt143.2.1 < 0 then (some (x139000, bt143.2.2.1, bt143.2.2.2.1, bt143.2.2.2.2)) else (if x139000.length < 4398046511104 then (depotref03_Read.l0 k x0 x1 x2 bt143.2.1 (wrap64 (x10 + 1)) (x139000 ++ [(⟨false, 0, bt143.1⟩ : S78)]) x139001 x139002 x139003) else (none))))) else (none)) else (if x9 < (x0.size : Int) then (some (x139000, 5, x9, x9)) else (some (x139000, x139001, x139002, x9)))
end
def depotref03_Read.f (k : Nat) (a0 : ByteArray) (a1 : ByteArray) (a2 : Int) : Option ((List (S78)) × Int × Int × Int) := if a2 < 0 then (depotref03_Read.j0 k a0 a1 0) else (depotref03_Read.j0 k a0 a1 a2)
theorem depotref03_Read.mono_l : ∀ k, (∀ y0 y1 y2, LeO (depotref03_Read.j0 k y0 y1 y2) (depotref03_Read.j0 (k + 1) y0 y1 y2)) ∧ (∀ y0 y1 y2 y3 y4 y5 y6 y7 y8, LeO (depotref03_Read.l0 k y0 y1 y2 y3 y4 y5 y6 y7 y8) (depotref03_Read.l0 (k + 1) y0 y1 y2 y3 y4 y5 y6 y7 y8))
  | 0 => ⟨fun _ _ _ r h => by simp [depotref03_Read.j0] at h, fun _ _ _ _ _ _ _ _ _ r h => by simp [depotref03_Read.l0] at h⟩
  | k + 1 => by
    obtain ⟨ih0, ih1⟩ := depotref03_Read.mono_l k
    refine ⟨?_, ?_⟩
    · intro y0 y1 y2
      unfold depotref03_Read.j0
      repeat' first
      | (with_reducible exact ih0 _ _ _)
      | (with_reducible exact ih1 _ _ _ _ _ _ _ _ _)
      | (with_reducible exact depotref03_Num.mono _ _ _)
      | (with_reducible exact depotref03_OneText.mono _ _ _ _)
      | (with_reducible exact depotref03_Planned.mono _ _)
      | (with_reducible exact LeO.refl _)
      | (with_reducible exact LeO.none _)
      | (with_reducible refine LeO.ite ?_ ?_)
      | (with_reducible refine LeO.bind ?_ (fun _ => ?_))
      | exact ih0 _ _ _
      | exact ih1 _ _ _ _ _ _ _ _ _
      | exact depotref03_Num.mono _ _ _
      | exact depotref03_OneText.mono _ _ _ _
      | exact depotref03_Planned.mono _ _
      | exact LeO.none _
      | refine LeO.ite ?_ ?_
      | refine LeO.bind ?_ (fun _ => ?_)
    · intro y0 y1 y2 y3 y4 y5 y6 y7 y8
      unfold depotref03_Read.l0
      repeat' first
      | (with_reducible exact ih0 _ _ _)
      | (with_reducible exact ih1 _ _ _ _ _ _ _ _ _)
      | (with_reducible exact depotref03_Num.mono _ _ _)
      | (with_reducible exact depotref03_OneText.mono _ _ _ _)
      | (with_reducible exact depotref03_Planned.mono _ _)
      | (with_reducible exact LeO.refl _)
      | (with_reducible exact LeO.none _)
      | (with_reducible refine LeO.ite ?_ ?_)
      | (with_reducible refine LeO.bind ?_ (fun _ => ?_))
      | exact ih0 _ _ _
      | exact ih1 _ _ _ _ _ _ _ _ _
      | exact depotref03_Num.mono _ _ _
      | exact depotref03_OneText.mono _ _ _ _
      | exact depotref03_Planned.mono _ _
      | exact LeO.none _
      | refine LeO.ite ?_ ?_
      | refine LeO.bind ?_ (fun _ => ?_)
theorem depotref03_Read.mono : ∀ a0 a1 a2 k, LeO (depotref03_Read.f k a0 a1 a2) (depotref03_Read.f (k + 1) a0 a1 a2) := by
  intro a0 a1 a2 k
  obtain ⟨ih0, ih1⟩ := depotref03_Read.mono_l k
  unfold depotref03_Read.f
  repeat' first
      | (with_reducible exact ih0 _ _ _)
      | (with_reducible exact ih1 _ _ _ _ _ _ _ _ _)
      | (with_reducible exact depotref03_Num.mono _ _ _)
      | (with_reducible exact depotref03_OneText.mono _ _ _ _)
      | (with_reducible exact depotref03_Planned.mono _ _)
      | (with_reducible exact LeO.refl _)
      | (with_reducible exact LeO.none _)
      | (with_reducible refine LeO.ite ?_ ?_)
      | (with_reducible refine LeO.bind ?_ (fun _ => ?_))
      | exact ih0 _ _ _
      | exact ih1 _ _ _ _ _ _ _ _ _
      | exact depotref03_Num.mono _ _ _
      | exact depotref03_OneText.mono _ _ _ _
      | exact depotref03_Planned.mono _ _
      | exact LeO.none _
      | refine LeO.ite ?_ ?_
      | refine LeO.bind ?_ (fun _ => ?_)
def depotref03_Read.T15 : Bool × List (List Nat × List Nat) := (true, [([], []), ([0], [0]), ([], []), ([], []), ([2, 3], [2, 3]), ([4], [4]), ([5], [5]), ([1, 6, 4], [1, 6]), ([0, 1, 2, 3, 4, 5, 6, 7], []), ([8, 7, 7, 0, 1, 2, 3, 4, 5, 6, 7], [7, 8])])
def depotref03_Read.B15 : List Nat := [0, 1, 0, 0, 12, 28, 60, 127, 255, 511]
theorem depotref03_Read.tab15 : rtab .any (opsOf Try.f20 15) = depotref03_Read.T15 := by kernel_rfl
theorem depotref03_Read.bits15 : waitsOk depotref03_Read.T15.2 depotref03_Read.B15 = true := by kernel_rfl
set_option maxHeartbeats 8000000 in
set_option maxRecDepth 100000 in
theorem depotref03_Read.calls (k : Nat) (a0 : ByteArray) (a1 : ByteArray) (a2 : Int) (r1 : List (S78)) (r2 : Int) (r3 : Int) (r4 : Int) (w : World) (h : depotref03_Read.f k a0 a1 a2 = some (r1, r2, r3, r4)) :
    Calls Try.prog 20 #[.string a0, .string a1, .int .i64 a2] w fun e w' => ∃ v0_ : Value, e = .returned (.agg #[v0_, .int .i64 r2, .int .i64 r3, .int .i64 r4]) ∧ Kd.R k78 78 w' w.heap.size (fun _ => True) v0_ r1 ∧ Below w.heap.size w w' := by
  have hu36 := Try.underlying36
  have hu78 := Try.underlying78
  have HB := Aside0.mk (Below.refl w.heap.size w)
  have H : (if a2 < 0 then (depotref03_Read.j0 k a0 a1 0) else (depotref03_Read.j0 k a0 a1 a2)) = some (r1, r2, r3, r4) := h
  clear h
  have HC4 := Aside0.mk H
  clear H
  go_enter Try.func20, Try.ntmps20
  go_upto_if 17 with (first | ((with_reducible refine gate_dst (N := 6) rfl ?_); refine box_event ?hg (N := 6) ?hd (cs := #[.slice none 0 0, .int .i64 0, .int .i64 0, .int .i64 0]) (t := 36) ?hr ?_; (case hd => rfl); (case hg => rfl); (case hr => first | (go_simp; done) | (go_simp; rfl)); intro gb136 hg w5 hbox hb; have n0_ := Aside0.mk (below_step (by repeat (first | (with_reducible first | exact HB.out | apply below_alloc | apply pw_below_drewN | apply below_drew1) | exact HB.out)) hb); have n1_ := Aside0.mk (hbox); have n2_ := Aside0.mk ((by rw [hg]; exact (below_size (by repeat (first | (with_reducible first | exact HB.out | apply below_alloc | apply pw_below_drewN | apply below_drew1) | exact HB.out))) : w.heap.size ≤ gb136)); have n3_ := Aside0.mk ((by rw [hg]; exact (below_size (by repeat (first | (with_reducible first | exact HB.out | apply below_alloc | apply pw_below_drewN | apply below_drew1) | exact HB.out))) : w.heap.size ≤ gb136)); clear HB; have HB := n0_; have BK136 := n1_; have GW136 := n2_; have GE136 := n3_; clear n0_ n1_ n2_ n3_; clear hb hbox hg))
  (try simp only [Act.put, List.setIfInBounds_toArray, List.set_cons_zero, List.set_cons_succ])
  go_cut [2] (fun v2 wc => ∃ (kq : Nat) (x2_3 : Int), v2 = .int .i64 x2_3 ∧ Aside0 (depotref03_Read.j0 kq a0 a1 x2_3 = some (r1, r2, r3, r4)) ∧ Aside0 (kq ≤ k) ∧ Aside0 (wc.heap[gb136]? = some (.cells #[(.slice none 0 0), .int .i64 0, .int .i64 0, .int .i64 0] 36 (0, 0))) ∧ Aside0 (Below w.heap.size w wc))
  case first =>
    have H := HC4.out
    clear HC4
    by_cases c6 : a2 < 0
    · rw [if_pos c6] at H
      have c6b0 : decide (a2 < 0) = true := decide_eq_true c6
      clear c6
      (first | rw [c6b0] | (simp only [i64_w, i32_w]; rw [c6b0]) | skip)
      have H' := Aside0.mk H
      clear H
      go_wp2
      go_meet
      case rel => exact ⟨_, (0), (by first | rfl | (simp; done) | (simp [*]; done)), H', ⟨by first | omega | exact Nat.le_refl _⟩, ⟨by (with_reducible repeat (first | refine blk_drewN ?_ _ | refine blk_drew ?_ | refine blk_alloc ?_ _)); exact BK136.out⟩, ⟨by repeat (first | (with_reducible first | exact HB.out | apply below_alloc | apply pw_below_drewN | apply below_drew1 | refine below_set ?_ GE136.out) | exact HB.out)⟩⟩
    · rw [if_neg c6] at H
      have c6b0 : decide (a2 < 0) = false := decide_eq_false c6
      clear c6
      (first | rw [c6b0] | (simp only [i64_w, i32_w]; rw [c6b0]) | skip)
      have H' := Aside0.mk H
      clear H
      go_wp2
      go_meet
      case rel => exact ⟨_, (a2), (by first | rfl | (simp; done) | (simp [*]; done)), H', ⟨by first | omega | exact Nat.le_refl _⟩, ⟨by (with_reducible repeat (first | refine blk_drewN ?_ _ | refine blk_drew ?_ | refine blk_alloc ?_ _)); exact BK136.out⟩, ⟨by repeat (first | (with_reducible first | exact HB.out | apply below_alloc | apply pw_below_drewN | apply below_drew1 | refine below_set ?_ GE136.out) | exact HB.out)⟩⟩
  case rest =>
    clear HC4
    try clear c2
    try clear p2
    try clear c6
    try clear c6b0
    obtain ⟨kq, x2_3, rfl, HA, HJ3, BK136, HB⟩ := hcut
    cases kq with
    | zero => exact absurd HA.out (by simp [depotref03_Read.j0])
    | succ kj3 =>
      have H := HA.out
      clear HA
      simp only [depotref03_Read.j0] at H
      replace H := Option.bind_eq_some_iff.mp H
      obtain ⟨t137, A70, H⟩ := H
      replace H : (if t137 ≥ 0 then (some (([] : List (S78)), 30, t137, 0)) else (depotref03_Read.l0 kj3 a0 a1 x2_3 0 0 ([] : List (S78)) 0 0 0)) = some (r1, r2, r3, r4) := H
      have A7 := Aside0.mk A70
      clear A70
      by_cases c8 : t137 ≥ 0
      · rw [if_pos c8] at H
        have c8b0 : decide (0 ≤ t137) = true := decide_eq_true c8
        clear c8
        simp only [Option.some.injEq, Prod.mk.injEq] at H
        obtain ⟨rfl, rfl, rfl, rfl⟩ := H
        go_wp2_with (first | ((with_reducible refine gate_callee (f := 34) rfl ?_); refine goesL_ (some 19) rfl rfl Try.func34 (by kernel_rfl) rfl #[.string a1] rfl (by (try simp only [List.map_toArray, List.map_cons, List.map_nil]); first | done | rfl | (simp only [List.length_drop, List.length_take]; rfl)) ?_; (with_reducible refine (depotref03_Planned.calls kj3 a1 t137 _ A7.out).mono ?_); rintro e w' ⟨rfl, ⟨nd, rfl⟩⟩; refine ⟨_, rfl, ?_⟩; (try (rw [drewN_self wc]; generalize hq_ : World.drewN wc _ = wc; have n0_ : Aside0 (wc.heap[gb136]? = some (.cells #[.slice none 0 0, .int .i64 0, .int .i64 0, .int .i64 0] 36 (0, 0))) := ⟨by rw [← hq_]; exact (by (with_reducible repeat (first | refine blk_drewN ?_ _ | refine blk_drew ?_ | refine blk_alloc ?_ _)); exact BK136.out)⟩; have n1_ : Aside0 (Below w.heap.size w wc) := ⟨by rw [← hq_]; exact (by repeat (first | (with_reducible first | exact HB.out | apply below_alloc | apply pw_below_drewN | apply below_drew1 | refine below_set ?_ GE136.out) | exact HB.out))⟩; clear BK136 HB hq_; have BK136 := n0_; have HB := n1_; clear n0_ n1_)); have hcz9_0 : wc.cell? ⟨gb136, 0, none⟩ = some (.slice none 0 0) := (blk_cell BK136.out 0).trans rfl; have hcz9_1 : wc.cell? ⟨gb136, 1, none⟩ = some (.int .i64 0) := (blk_cell BK136.out 1).trans rfl; have hcz9_2 : wc.cell? ⟨gb136, 2, none⟩ = some (.int .i64 0) := (blk_cell BK136.out 2).trans rfl; have hcz9_3 : wc.cell? ⟨gb136, 3, none⟩ = some (.int .i64 0) := (blk_cell BK136.out 3).trans rfl; have hfz9_0 := blk_frozen BK136.out 0; have hfz9_1 := blk_frozen BK136.out 1; have hfz9_2 := blk_frozen BK136.out 2; have hfz9_3 := blk_frozen BK136.out 3))
        refine bodyPost_ret (results_cell_row rfl _ _ gb136 36 #[.slice none 0 0, .int .i64 30, .int .i64 t137, .int .i64 0] (0, 0) _ rfl (by (with_reducible repeat (first | refine blk_drewN ?_ _ | refine blk_drew ?_ | refine blk_alloc ?_ _)); refine blk_put (cs := #[.slice none 0 0, .int .i64 30, .int .i64 t137, .int .i64 0]) ?_ 3 _ rfl; (with_reducible repeat (first | refine blk_drewN ?_ _ | refine blk_drew ?_ | refine blk_alloc ?_ _)); refine blk_put (cs := #[.slice none 0 0, .int .i64 30, .int .i64 0, .int .i64 0]) ?_ 2 _ rfl; (with_reducible repeat (first | refine blk_drewN ?_ _ | refine blk_drew ?_ | refine blk_alloc ?_ _)); refine blk_put (cs := #[.slice none 0 0, .int .i64 0, .int .i64 0, .int .i64 0]) ?_ 1 _ rfl; (with_reducible repeat (first | refine blk_drewN ?_ _ | refine blk_drew ?_ | refine blk_alloc ?_ _)); refine blk_put (cs := #[.slice none 0 0, .int .i64 0, .int .i64 0, .int .i64 0]) ?_ 0 _ rfl; (with_reducible repeat (first | refine blk_drewN ?_ _ | refine blk_drew ?_ | refine blk_alloc ?_ _)); exact BK136.out) Try.underlying36 rfl (by kernel_rfl)) rfl ?_
        exact ⟨_, by first | rfl | (simp [errW_none, errW_some] <;> rfl) | (simp [*, errW_none, errW_some] <;> rfl), by first | exact Kd.R_nil _ _ _ _ _ | exact Kd.N_nil _ _ _ _ _ | exact Kd.V_nil _ _ _ _ _ | exact Kd.Q_nil _ _ _ _ _ | exact Kd.S_nil _ _ _ _ _, by repeat (first | (with_reducible first | exact HB.out | apply below_alloc | apply pw_below_drewN | apply below_drew1 | refine below_set ?_ GE136.out) | exact HB.out)⟩
      · rw [if_neg c8] at H
        have c8b0 : decide (0 ≤ t137) = false := decide_eq_false c8
        clear c8
        have H' := Aside0.mk H
        clear H
        go_wp2_with (first | ((with_reducible refine gate_callee (f := 34) rfl ?_); refine goesL_ (some 19) rfl rfl Try.func34 (by kernel_rfl) rfl #[.string a1] rfl (by (try simp only [List.map_toArray, List.map_cons, List.map_nil]); first | done | rfl | (simp only [List.length_drop, List.length_take]; rfl)) ?_; (with_reducible refine (depotref03_Planned.calls kj3 a1 t137 _ A7.out).mono ?_); rintro e w' ⟨rfl, ⟨nd, rfl⟩⟩; refine ⟨_, rfl, ?_⟩) | ((with_reducible refine gate_dst (N := 8) rfl ?_); refine box_event ?hg (N := 8) ?hd (cs := #[.slice none 0 0, .int .i64 0, .int .i64 0, .int .i64 0]) (t := 36) ?hr ?_; (case hd => rfl); (case hg => rfl); (case hr => first | (go_simp; done) | (go_simp; rfl)); intro gb138 hg w10 hbox hb; have n0_ := Aside0.mk (blk_below (g := gb136) (o := .cells #[.slice none 0 0, .int .i64 0, .int .i64 0, .int .i64 0] 36 (0, 0)) (by (with_reducible repeat (first | refine blk_drewN ?_ _ | refine blk_drew ?_ | refine blk_alloc ?_ _)); exact BK136.out) hb); have n1_ := Aside0.mk (below_step (by repeat (first | (with_reducible first | exact HB.out | apply below_alloc | apply pw_below_drewN | apply below_drew1 | refine below_set ?_ GE136.out) | exact HB.out)) hb); have n2_ := Aside0.mk (hbox); have n3_ := Aside0.mk ((by rw [hg]; exact (below_size (by repeat (first | (with_reducible first | exact HB.out | apply below_alloc | apply pw_below_drewN | apply below_drew1 | refine below_set ?_ GE136.out) | exact HB.out))) : w.heap.size ≤ gb138)); have n4_ := Aside0.mk ((by rw [hg]; exact (below_size (by repeat (first | (with_reducible first | exact HB.out | apply below_alloc | apply pw_below_drewN | apply below_drew1 | refine below_set ?_ GE136.out) | exact HB.out))) : w.heap.size ≤ gb138)); have n5_ := Aside0.mk ((by rw [hg]; exact Nat.ne_of_lt (blk_lt (g := gb136) (o := .cells #[.slice none 0 0, .int .i64 0, .int .i64 0, .int .i64 0] 36 (0, 0)) (by (with_reducible repeat (first | refine blk_drewN ?_ _ | refine blk_drew ?_ | refine blk_alloc ?_ _)); exact BK136.out)) : gb136 ≠ gb138)); have n6_ := Aside0.mk ((by rw [hg]; exact Nat.ne_of_gt (blk_lt (g := gb136) (o := .cells #[.slice none 0 0, .int .i64 0, .int .i64 0, .int .i64 0] 36 (0, 0)) (by (with_reducible repeat (first | refine blk_drewN ?_ _ | refine blk_drew ?_ | refine blk_alloc ?_ _)); exact BK136.out)) : gb138 ≠ gb136)); clear BK136; clear HB; have BK136 := n0_; have HB := n1_; have BK138 := n2_; have GW138 := n3_; have GE138 := n4_; have NB136_138 := n5_; have NB138_136 := n6_; clear n0_ n1_ n2_ n3_ n4_ n5_ n6_; clear hb hbox hg))
        go_loopg [9, 10] kj3 (fun kq v9 v10 w' => ∃ (x9_2 : Int) (x10_2 : Int) (x137001_2 : Int) (x137002_2 : Int) (x137003_2 : Int) (x139000_2 : List (S78)) (x139001_2 : Int) (x139002_2 : Int) (x139003_2 : Int) (u139000 : Value), v9 = .int .i64 x9_2 ∧ v10 = .int .i64 x10_2 ∧ Aside0 (depotref03_Read.l0 kq a0 a1 x2_3 x9_2 x10_2 x139000_2 x139001_2 x139002_2 x139003_2 = some (r1, r2, r3, r4)) ∧ Aside0 (kq ≤ kj3) ∧ Aside0 (Kd.R k78 78 w' w.heap.size (fun _ => True) u139000 x139000_2) ∧ Aside0 (w'.heap[gb136]? = some (.cells #[(.slice none 0 0), .int .i64 x137001_2, .int .i64 x137002_2, .int .i64 x137003_2] 36 (0, 0))) ∧ Aside0 (w'.heap[gb138]? = some (.cells #[u139000, .int .i64 x139001_2, .int .i64 x139002_2, .int .i64 x139003_2] 36 (0, 0))) ∧ Aside0 (Below w.heap.size w w'))
        case atStart => exact ⟨(0), (0), (0), (0), (0), (([] : List (S78))), (0), (0), (0), (.slice none 0 0), (by first | rfl | (simp; done) | (simp [*]; done)), (by first | rfl | (simp; done) | (simp [*]; done)), H', ⟨Nat.le_refl _⟩, ⟨by first | exact Kd.R_nil _ _ _ _ _ | exact Kd.N_nil _ _ _ _ _ | exact Kd.V_nil _ _ _ _ _ | exact Kd.Q_nil _ _ _ _ _ | exact Kd.S_nil _ _ _ _ _⟩, ⟨by (with_reducible repeat (first | refine blk_drewN ?_ _ | refine blk_drew ?_ | refine blk_alloc ?_ _)); exact BK136.out⟩, ⟨by (with_reducible repeat (first | refine blk_drewN ?_ _ | refine blk_drew ?_ | refine blk_alloc ?_ _)); exact BK138.out⟩, ⟨by repeat (first | (with_reducible first | exact HB.out | apply below_alloc | apply pw_below_drewN | apply below_drew1 | refine below_set ?_ GE136.out | refine below_set ?_ GE138.out) | exact HB.out)⟩⟩
        case round =>
          clear H'
          try clear c2
          try clear p2
          try clear c3
          try clear c6
          try clear c6b0
          try clear c8
          try clear c8b0
          try clear hcz9_0
          try clear hcz9_1
          try clear hcz9_2
          try clear hcz9_3
          try clear hfz9_0
          try clear hfz9_1
          try clear hfz9_2
          try clear hfz9_3
          try clear p2
          obtain ⟨x9_2, x10_2, x137001_2, x137002_2, x137003_2, x139000_2, x139001_2, x139002_2, x139003_2, u139000, rfl, rfl, HA, HK2, HO_139000, BK136, BK138, HB⟩ := hrel
          cases gk with
          | zero => exact absurd HA.out (by simp [depotref03_Read.l0])
          | succ k2 =>
            have H := HA.out
            clear HA
            simp only [depotref03_Read.l0] at H
            by_cases c11 : x10_2 < (a1.size : Int)
            · rw [if_pos c11] at H
              have c11b0 : decide (x10_2 < (a1.size : Int)) = true := decide_eq_true c11
              clear c11
              by_cases c12 : 0 ≤ x10_2
              · rw [if_pos c12] at H
                have c12b0 : decide (0 ≤ x10_2) = true := decide_eq_true c12
                clear c12
                by_cases c14 : (bt a1 x10_2) = 105
                · rw [if_pos c14] at H
                  have c14b0 : ((bt a1 x10_2) == 105) = true := beq_iff_eq.mpr c14
                  have c14b1 : ((bt a1 x10_2) != 105) = false := bne_eq_false_iff_eq.mpr c14
                  clear c14
                  by_cases c15 : x9_2 > (wrap64 ((a0.size : Int) - 8))
                  · rw [if_pos c15] at H
                    have c15b0 : decide ((wrap64 ((a0.size : Int) - 8)) < x9_2) = true := decide_eq_true c15
                    clear c15
                    simp only [Option.some.injEq, Prod.mk.injEq] at H
                    obtain ⟨rfl, rfl, rfl, rfl⟩ := H
                    have p13 : 0 ≤ (x10_2 : Int) := of_decide_eq_true (by first | (with_reducible assumption) | assumption)
                    have q13 : x10_2 < (a1.size : Int) := of_decide_eq_true (by first | (with_reducible assumption) | assumption)
                    have hx13 := bt_at a1 x10_2
                    replace p13 := eq_true p13
                    replace q13 := eq_true q13
                    have hnb16 := NB138_136.out
                    have hnc16 := NB136_138.out
                    have hcz17_0 : wr.cell? ⟨gb138, 0, none⟩ = some (u139000) := (blk_cell BK138.out 0).trans rfl
                    have hcz17_1 : wr.cell? ⟨gb138, 1, none⟩ = some (.int .i64 x139001_2) := (blk_cell BK138.out 1).trans rfl
                    have hcz17_2 : wr.cell? ⟨gb138, 2, none⟩ = some (.int .i64 x139002_2) := (blk_cell BK138.out 2).trans rfl
                    have hcz17_3 : wr.cell? ⟨gb138, 3, none⟩ = some (.int .i64 x139003_2) := (blk_cell BK138.out 3).trans rfl
                    have hfz17_0 := blk_frozen BK138.out 0
                    have hfz17_1 := blk_frozen BK138.out 1
                    have hfz17_2 := blk_frozen BK138.out 2
                    have hfz17_3 := blk_frozen BK138.out 3
                    obtain ⟨Ao18, co18, eo18⟩ := Kd.R_slice HO_139000.out
                    subst eo18
                    have hcz19_0 : wr.cell? ⟨gb136, 0, none⟩ = some (.slice none 0 0) := (blk_cell BK136.out 0).trans rfl
                    have hcz19_1 : wr.cell? ⟨gb136, 1, none⟩ = some (.int .i64 x137001_2) := (blk_cell BK136.out 1).trans rfl
                    have hcz19_2 : wr.cell? ⟨gb136, 2, none⟩ = some (.int .i64 x137002_2) := (blk_cell BK136.out 2).trans rfl
                    have hcz19_3 : wr.cell? ⟨gb136, 3, none⟩ = some (.int .i64 x137003_2) := (blk_cell BK136.out 3).trans rfl
                    have hfz19_0 := blk_frozen BK136.out 0
                    have hfz19_1 := blk_frozen BK136.out 1
                    have hfz19_2 := blk_frozen BK136.out 2
                    have hfz19_3 := blk_frozen BK136.out 3
                    go_wp2
                    refine bodyPost_ret (results_cell_row rfl _ _ gb136 36 #[.slice Ao18 x139000_2.length co18, .int .i64 x139001_2, .int .i64 x139002_2, .int .i64 (a0.size : Int)] (0, 0) _ rfl (by (with_reducible repeat (first | refine blk_drewN ?_ _ | refine blk_drew ?_ | refine blk_alloc ?_ _)); refine blk_put (cs := #[.slice Ao18 x139000_2.length co18, .int .i64 x139001_2, .int .i64 x139002_2, .int .i64 x137003_2]) ?_ 3 _ rfl; (with_reducible repeat (first | refine blk_drewN ?_ _ | refine blk_drew ?_ | refine blk_alloc ?_ _)); refine blk_put (cs := #[.slice Ao18 x139000_2.length co18, .int .i64 x139001_2, .int .i64 x137002_2, .int .i64 x137003_2]) ?_ 2 _ rfl; (with_reducible repeat (first | refine blk_drewN ?_ _ | refine blk_drew ?_ | refine blk_alloc ?_ _)); refine blk_put (cs := #[.slice Ao18 x139000_2.length co18, .int .i64 x137001_2, .int .i64 x137002_2, .int .i64 x137003_2]) ?_ 1 _ rfl; (with_reducible repeat (first | refine blk_drewN ?_ _ | refine blk_drew ?_ | refine blk_alloc ?_ _)); refine blk_put (cs := #[.slice none 0 0, .int .i64 x137001_2, .int .i64 x137002_2, .int .i64 x137003_2]) ?_ 0 _ rfl; (with_reducible repeat (first | refine blk_drewN ?_ _ | refine blk_drew ?_ | refine blk_alloc ?_ _)); refine blk_far ?_ NB136_138.out _; (with_reducible repeat (first | refine blk_drewN ?_ _ | refine blk_drew ?_ | refine blk_alloc ?_ _)); exact BK136.out) Try.underlying36 rfl (by kernel_rfl)) rfl ?_
                    exact ⟨_, by first | rfl | (simp [errW_none, errW_some] <;> rfl) | (simp [*, errW_none, errW_some] <;> rfl), by (with_reducible repeat (first | apply Kd.R_alloc | apply Kd.R_drewN | apply Kd.R_drew)); exact Kd.R_mono (Kd.R_far (p := ⟨gb136, 3, none⟩) (Kd.R_far (p := ⟨gb136, 2, none⟩) (Kd.R_far (p := ⟨gb136, 1, none⟩) (Kd.R_far (p := ⟨gb136, 0, none⟩) (Kd.R_far (p := ⟨gb138, 3, none⟩) (Kd.R_types (Kd.R_types HO_139000.out BK138.out (by decide)) BK136.out (by decide)) (fun _ hk => hk.1.2) (.int .i64 (a0.size : Int))) (fun _ hk => hk.2) (.slice Ao18 x139000_2.length co18)) (fun _ hk => hk.2) (.int .i64 x139001_2)) (fun _ hk => hk.2) (.int .i64 x139002_2)) (fun _ hk => hk.2) (.int .i64 (a0.size : Int))) (fun _ hk => trivial), by repeat (first | (with_reducible first | exact HB.out | apply below_alloc | apply pw_below_drewN | apply below_drew1 | refine below_set ?_ GE136.out | refine below_set ?_ GE138.out) | exact HB.out)⟩
                  · rw [if_neg c15] at H
                    have c15b0 : decide ((wrap64 ((a0.size : Int) - 8)) < x9_2) = false := decide_eq_false c15
                    clear c15
                    replace H := Option.bind_eq_some_iff.mp H
                    obtain ⟨t139, A200, H⟩ := H
                    replace H : (if x139000_2.length < 4398046511104 then (depotref03_Read.l0 k2 a0 a1 x2_3 (wrap64 (x9_2 + 8)) (wrap64 (x10_2 + 1)) (x139000_2 ++ [(⟨true, t139, (⟨#[]⟩ : ByteArray)⟩ : S78)]) x139001_2 x139002_2 x139003_2) else (none)) = some (r1, r2, r3, r4) := H
                    have A20 := Aside0.mk A200
                    clear A200
                    by_cases c21 : x139000_2.length < 4398046511104
                    · rw [if_pos c21] at H
                      have LMc21 := Aside0.mk c21
                      clear c21
                      obtain ⟨y140, hy140⟩ : ∃ y_ : List (S78), y_ = (x139000_2 ++ [(⟨true, t139, (⟨#[]⟩ : ByteArray)⟩ : S78)]) := ⟨_, rfl⟩
                      replace H : (depotref03_Read.l0 k2 a0 a1 x2_3 (wrap64 (x9_2 + 8)) (wrap64 (x10_2 + 1)) y140 x139001_2 x139002_2 x139003_2) = some (r1, r2, r3, r4) := by first | (rw [hy140]; with_reducible exact H) | (have H2_ := (Option.bind_some _ _).symm.trans H; rw [hy140]; with_reducible exact H2_) | (have H2_ := (Option.bind_some _ _).symm.trans H; with_reducible exact H2_) | with_reducible exact H | (rw [hy140]; exact H) | exact H
                      have Ny140 := Aside0.mk hy140
                      clear hy140
                      have H' := Aside0.mk H
                      clear H
                      have p13 : 0 ≤ (x10_2 : Int) := of_decide_eq_true (by first | (with_reducible assumption) | assumption)
                      have q13 : x10_2 < (a1.size : Int) := of_decide_eq_true (by first | (with_reducible assumption) | assumption)
                      have hx13 := bt_at a1 x10_2
                      replace p13 := eq_true p13
                      replace q13 := eq_true q13
                      try go_wp2
                      have n0_ := Aside0.mk (Kd.R_drew HO_139000.out)
                      have n1_ := Aside0.mk (blk_drew BK136.out)
                      have n2_ := Aside0.mk (blk_drew BK138.out)
                      have n3_ := Aside0.mk (below_drew1 HB.out)
                      clear HO_139000
                      clear BK136
                      clear BK138
                      clear HB
                      have HO_139000 := n0_
                      have BK136 := n1_
                      have BK138 := n2_
                      have HB := n3_
                      clear n0_ n1_ n2_ n3_
                      refine start_ (n := 10) (S := fun w' => w'.cell? ⟨gb138, 0, none⟩ = some (u139000) ∧ w'.cell? ⟨gb138, 1, none⟩ = some (.int .i64 x139001_2) ∧ w'.cell? ⟨gb138, 2, none⟩ = some (.int .i64 x139002_2) ∧ w'.cell? ⟨gb138, 3, none⟩ = some (.int .i64 x139003_2)) (ds := [9]) #[false, false, false, false, false, false, false, false, false, false] (by kernel_rfl) rfl rfl ⟨(blk_cell BK138.out 0).trans rfl, (blk_cell BK138.out 1).trans rfl, (blk_cell BK138.out 2).trans rfl, (blk_cell BK138.out 3).trans rfl⟩ (fun hHeld => ?_); refine with_tabW depotref03_Read.tab15 depotref03_Read.bits15 (fun HT_ HW_ => ?_)
                      generalize wr.drew = w22 at HO_139000 BK136 BK138 HB hHeld ⊢
                      refine pure_ (i := 0) (N := some 43) (v := ?_) (a' := ?_) #[true, false, false, false, false, false, false, false, false, false] rfl rfl (any_of HT_.out (by kernel_rfl)) (fun _ _ _ h => h) (Or.inl ⟨by rfl, ?_⟩) ?_ ?_
                      rotate_left
                      · intro w'
                        go_simp
                        with_reducible rfl
                      rotate_left
                      · simp only [Act.put, List.setIfInBounds_toArray, List.set_cons_zero, List.set_cons_succ, i64_w, i32_w]
                        rfl
                      refine pure_ (i := 2) (N := some 45) (v := ?_) (a' := ?_) #[true, false, true, false, false, false, false, false, false, false] rfl rfl (any_of HT_.out (by kernel_rfl)) (fun _ _ _ h => h) (Or.inl ⟨by rfl, ?_⟩) ?_ ?_
                      rotate_left
                      · intro w'
                        go_simp
                        with_reducible rfl
                      rotate_left
                      · simp only [Act.put, List.setIfInBounds_toArray, List.set_cons_zero, List.set_cons_succ, i64_w, i32_w]
                        rfl
                      refine pure_ (i := 3) (N := some 46) (v := ?_) (a' := ?_) #[true, false, true, true, false, false, false, false, false, false] rfl rfl (any_of HT_.out (by kernel_rfl)) (fun _ _ _ h => h) (Or.inl ⟨by rfl, ?_⟩) ?_ ?_
                      rotate_left
                      · intro w'
                        go_simp
                        with_reducible rfl
                      rotate_left
                      · simp only [Act.put, List.setIfInBounds_toArray, List.set_cons_zero, List.set_cons_succ, i64_w, i32_w]
                        rfl
                      refine take_ (i := 1) (N := some 44) (v := ?_) (a' := ?_) #[true, true, true, true, false, false, false, false, false, false] rfl rfl (take_ofW HT_.out HW_.out (by kernel_rfl)) (fun _ _ _ h => h) (Or.inl ⟨by rfl, ?_⟩) hHeld ?_ ?_
                      rotate_left
                      · rintro w' ⟨s0, s1, s2, s3⟩
                        go_simp
                        with_reducible rfl
                      rotate_left
                      · simp only [Act.put, List.setIfInBounds_toArray, List.set_cons_zero, List.set_cons_succ, i64_w, i32_w]
                        rfl
                      refine one_ (i := 4) (N := some 47) #[true, true, true, true, true, false, false, false, false, false] rfl rfl (one_of HT_.out (by kernel_rfl)) (by decide) (fun K hK => ?_)
                      refine goes_ Try.func35 (by kernel_rfl) rfl #[.string a0, .int .i64 x9_2] (by rfl) rfl rfl (by (try simp only [List.map_toArray, List.map_cons, List.map_nil]); first | done | rfl | (simp only [List.length_drop, List.length_take]; rfl)) ?_
                      with_reducible refine (depotref03_Num.calls k2 a0 x9_2 t139 _ A20.out).mono ?_
                      rintro e w' ⟨rfl, ⟨nd, rfl⟩⟩
                      refine ⟨_, rfl, ?_⟩
                      refine hK.out _ _ ⟨(blk_cell BK138.out 0).trans rfl, (blk_cell BK138.out 1).trans rfl, (blk_cell BK138.out 2).trans rfl, (blk_cell BK138.out 3).trans rfl⟩ (fun hHeld => ?_)
                      clear hK K
                      refine norm_ (a' := ?_) ?_ ?_
                      rotate_left
                      · show Act.put _ (some 47) _ = _
                        simp only [Act.put, List.setIfInBounds_toArray, List.set_cons_zero, List.set_cons_succ, i64_w, i32_w]
                        rfl
                      refine pure_ (i := 5) (N := some 48) (v := ?_) (a' := ?_) #[true, true, true, true, true, true, false, false, false, false] rfl rfl (any_of HT_.out (by kernel_rfl)) (fun _ _ _ h => h) (Or.inl ⟨by rfl, ?_⟩) ?_ ?_
                      rotate_left
                      · intro w'
                        go_simp
                        with_reducible rfl
                      rotate_left
                      · simp only [Act.put, List.setIfInBounds_toArray, List.set_cons_zero, List.set_cons_succ, i64_w, i32_w]
                        rfl
                      refine one_ (i := 6) (N := some 49) #[true, true, true, true, true, true, true, false, false, false] rfl rfl (one_of HT_.out (by kernel_rfl)) (by decide) (fun K hK => ?_)
                      refine value_ (w1 := ?_) (v := ?_) (by rfl) rfl ?_ ?_
                      rotate_left 2
                      · go_simp
                        constructor
                        · rfl
                        · rfl
                      refine hK.out _ _ ⟨(blk_cell (blk_alloc BK138.out _) 0).trans rfl, (blk_cell (blk_alloc BK138.out _) 1).trans rfl, (blk_cell (blk_alloc BK138.out _) 2).trans rfl, (blk_cell (blk_alloc BK138.out _) 3).trans rfl⟩ (fun hHeld => ?_)
                      clear hK K
                      refine norm_ (a' := ?_) ?_ ?_
                      rotate_left
                      · show Act.put _ (some 49) _ = _
                        simp only [Act.put, List.setIfInBounds_toArray, List.set_cons_zero, List.set_cons_succ, i64_w, i32_w]
                        rfl
                      refine one_ (i := 7) (N := some 50) #[true, true, true, true, true, true, true, true, false, false] rfl rfl (one_of HT_.out (by kernel_rfl)) (by decide) (fun K hK => ?_)
                      refine Kd.R_append_step k78 (w0 := w) w.heap.size (by rfl) (.tmp 44) (.tmp 49) 34 78 (.agg #[(.bool false), (.int .u64 0), (.string ⟨#[]⟩)]) 32 rfl Try.underlying34 info78 rfl (by decide) (by omega) u139000 x139000_2 (⟨true, t139, (⟨#[]⟩ : ByteArray)⟩ : S78) [.bool true, .int .u64 t139, .string (⟨#[]⟩ : ByteArray)] (fun _ => True) (fun _ => False) rfl rfl ?aP (fun _ hk => hk.elim) ?aF ?aO ?aB ?aS ?aL ?_
                      (case aP => exact k78_mkM _ _ _ (⟨true, t139, (⟨#[]⟩ : ByteArray)⟩ : S78))
                      (case aB => exact (by repeat (first | (with_reducible first | exact HB.out | apply below_alloc | apply pw_below_drewN | apply below_drew1 | refine below_set ?_ GE136.out | refine below_set ?_ GE138.out) | exact HB.out)))
                      (case aF => exact (fun _ _ => trivial))
                      (case aO => exact (by (with_reducible repeat (first | apply Kd.R_alloc | apply Kd.R_drewN | apply Kd.R_drew)); exact HO_139000.out))
                      (case aS => exact (below_size (by repeat (first | (with_reducible first | exact HB.out | apply below_alloc | apply pw_below_drewN | apply below_drew1 | refine below_set ?_ GE136.out | refine below_set ?_ GE138.out) | exact HB.out))))
                      (case aL => have := LMc21.out; omega)
                      intro v141 w23 ho hb hg hat
                      rw [← Ny140.out] at ho
                      have n0_ := Aside0.mk (blk_grown (g := gb136) (o := .cells #[.slice none 0 0, .int .i64 x137001_2, .int .i64 x137002_2, .int .i64 x137003_2] 36 (0, 0)) (by (with_reducible repeat (first | refine blk_drewN ?_ _ | refine blk_drew ?_ | refine blk_alloc ?_ _)); exact BK136.out) hg (Kd.R_ne HO_139000.out BK136.out (by decide)))
                      have n1_ := Aside0.mk (blk_grown (g := gb138) (o := .cells #[u139000, .int .i64 x139001_2, .int .i64 x139002_2, .int .i64 x139003_2] 36 (0, 0)) (by (with_reducible repeat (first | refine blk_drewN ?_ _ | refine blk_drew ?_ | refine blk_alloc ?_ _)); exact BK138.out) hg (Kd.R_ne HO_139000.out BK138.out (by decide)))
                      have n2_ := Aside0.mk (hb)
                      have n3_ := Aside0.mk (ho)
                      clear BK136
                      clear BK138
                      clear HB
                      clear HO_139000
                      have BK136 := n0_
                      have BK138 := n1_
                      have HB := n2_
                      have HO142 := n3_
                      clear n0_ n1_ n2_ n3_
                      clear ho hb hg hat
                      obtain ⟨Ao24, co24, eo24⟩ := Kd.R_slice HO142.out
                      (first | subst eo24 | (injection eo24 with f1_ f2_ f3_; have f4_ := f1_.symm; have f5_ := f3_.symm; clear f1_ f2_ f3_; subst f4_; subst f5_))
                      refine hK.out _ _ ⟨(blk_cell BK138.out 0).trans rfl, (blk_cell BK138.out 1).trans rfl, (blk_cell BK138.out 2).trans rfl, (blk_cell BK138.out 3).trans rfl⟩ (fun hHeld => ?_)
                      clear hK K
                      refine norm_ (a' := ?_) ?_ ?_
                      rotate_left
                      · show Act.put _ (some 50) _ = _
                        simp only [Act.put, List.setIfInBounds_toArray, List.set_cons_zero, List.set_cons_succ, i64_w, i32_w]
                        rfl
                      refine pure_ (i := 8) (N := some 51) (v := ?_) (a' := ?_) #[true, true, true, true, true, true, true, true, true, false] rfl rfl (any_of HT_.out (by kernel_rfl)) (fun _ _ _ h => h) (Or.inl ⟨by rfl, ?_⟩) ?_ ?_
                      rotate_left
                      · intro w'
                        go_simp
                        with_reducible rfl
                      rotate_left
                      · simp only [Act.put, List.setIfInBounds_toArray, List.set_cons_zero, List.set_cons_succ, i64_w, i32_w]
                        rfl
                      refine last_ (i := 9) (N := none) #[true, true, true, true, true, true, true, true, true, true] rfl rfl (one_of HT_.out (by kernel_rfl)) (by decide) (fun K hK => ?_)
                      have hs25 : w23.cell? ⟨gb138, 0, none⟩ = some (u139000) := (blk_cell BK138.out 0).trans rfl
                      have hfs25 := blk_frozen BK138.out 0
                      have hns25_0 := NB136_138.out
                      have hms25_0 := NB138_136.out
                      refine skip_ (w1 := ?_) (by rfl) rfl ?_ ?_
                      rotate_left
                      · go_simp
                        rfl
                      refine hK.out _ _ ?_
                      clear hK K
                      refine done_ (done_of HT_.out (by kernel_rfl)) ?_
                      try go_wp2
                      go_roundg k2
                      case measure => have := HJ3.out; have := HK2.out; omega
                      case rel => exact ⟨(wrap64 (x9_2 + 8)), (wrap64 (x10_2 + 1)), (x137001_2), (x137002_2), (x137003_2), (y140), (x139001_2), (x139002_2), (x139003_2), (.slice Ao24 y140.length co24), (by first | rfl | (simp; done) | (simp [*]; done)), (by first | rfl | (simp; done) | (simp [*]; done)), H', ⟨by have := HJ3.out; have := HK2.out; omega⟩, ⟨by (with_reducible repeat (first | apply Kd.R_alloc | apply Kd.R_drewN | apply Kd.R_drew)); exact Kd.R_mono (Kd.R_far (p := ⟨gb138, 0, none⟩) (Kd.R_types HO142.out BK138.out (by decide)) (fun _ hk => hk.2) (.slice Ao24 y140.length co24)) (fun _ hk => trivial)⟩, ⟨by (with_reducible repeat (first | refine blk_drewN ?_ _ | refine blk_drew ?_ | refine blk_alloc ?_ _)); refine blk_far ?_ NB136_138.out _; (with_reducible repeat (first | refine blk_drewN ?_ _ | refine blk_drew ?_ | refine blk_alloc ?_ _)); exact BK136.out⟩, ⟨by (with_reducible repeat (first | refine blk_drewN ?_ _ | refine blk_drew ?_ | refine blk_alloc ?_ _)); refine blk_put (cs := #[u139000, .int .i64 x139001_2, .int .i64 x139002_2, .int .i64 x139003_2]) ?_ 0 _ rfl; (with_reducible repeat (first | refine blk_drewN ?_ _ | refine blk_drew ?_ | refine blk_alloc ?_ _)); exact BK138.out⟩, ⟨by repeat (first | (with_reducible first | exact HB.out | apply below_alloc | apply pw_below_drewN | apply below_drew1 | refine below_set ?_ GE136.out | refine below_set ?_ GE138.out) | exact HB.out)⟩⟩
                    · rw [if_neg c21] at H
                      exact absurd H (by simp)
                · rw [if_neg c14] at H
                  have c14b0 : ((bt a1 x10_2) == 105) = false := beq_eq_false_iff_ne.mpr c14
                  have c14b1 : ((bt a1 x10_2) != 105) = true := bne_iff_ne.mpr c14
                  replace H := Option.bind_eq_some_iff.mp H
                  obtain ⟨⟨t143, t144, t145, t146, t147⟩, A260, H⟩ := H
                  replace H : (if t144 < 0 then (some (x139000_2, t145, t146, t147)) else (if x139000_2.length < 4398046511104 then (depotref03_Read.l0 k2 a0 a1 x2_3 t144 (wrap64 (x10_2 + 1)) (x139000_2 ++ [(⟨false, 0, t143⟩ : S78)]) x139001_2 x139002_2 x139003_2) else (none))) = some (r1, r2, r3, r4) := H
                  have A26 := Aside0.mk A260
                  clear A260
                  by_cases c27 : t144 < 0
                  · rw [if_pos c27] at H
                    have c27b0 : decide (t144 < 0) = true := decide_eq_true c27
                    clear c27
                    simp only [Option.some.injEq, Prod.mk.injEq] at H
                    obtain ⟨rfl, rfl, rfl, rfl⟩ := H
                    have p13 : 0 ≤ (x10_2 : Int) := of_decide_eq_true (by first | (with_reducible assumption) | assumption)
                    have q13 : x10_2 < (a1.size : Int) := of_decide_eq_true (by first | (with_reducible assumption) | assumption)
                    have hx13 := bt_at a1 x10_2
                    replace p13 := eq_true p13
                    replace q13 := eq_true q13
                    go_wp2_with (first | ((with_reducible refine gate_callee (f := 36) rfl ?_); refine goesL_ (some 58) rfl rfl Try.func36 (by kernel_rfl) rfl #[.string a0, .int .i64 x9_2, .int .i64 x2_3] rfl (by (try simp only [List.map_toArray, List.map_cons, List.map_nil]); first | done | rfl | (simp only [List.length_drop, List.length_take]; rfl)) ?_; (with_reducible refine (depotref03_OneText.calls k2 a0 x9_2 x2_3 t143 t144 t145 t146 t147 _ A26.out).mono ?_); rintro e w' ⟨rfl, ⟨nd, rfl⟩⟩; refine ⟨_, rfl, ?_⟩; (try (rw [drewN_self wr]; generalize hq_ : World.drewN wr _ = wr; have n0_ : Aside0 (Kd.R k78 78 wr w.heap.size (fun _ => True) u139000 x139000_2) := ⟨by rw [← hq_]; exact (by (with_reducible repeat (first | apply Kd.R_alloc | apply Kd.R_drewN | apply Kd.R_drew)); exact HO_139000.out)⟩; have n1_ : Aside0 (wr.heap[gb136]? = some (.cells #[.slice none 0 0, .int .i64 x137001_2, .int .i64 x137002_2, .int .i64 x137003_2] 36 (0, 0))) := ⟨by rw [← hq_]; exact (by (with_reducible repeat (first | refine blk_drewN ?_ _ | refine blk_drew ?_ | refine blk_alloc ?_ _)); exact BK136.out)⟩; have n2_ : Aside0 (wr.heap[gb138]? = some (.cells #[u139000, .int .i64 x139001_2, .int .i64 x139002_2, .int .i64 x139003_2] 36 (0, 0))) := ⟨by rw [← hq_]; exact (by (with_reducible repeat (first | refine blk_drewN ?_ _ | refine blk_drew ?_ | refine blk_alloc ?_ _)); exact BK138.out)⟩; have n3_ : Aside0 (Below w.heap.size w wr) := ⟨by rw [← hq_]; exact (by repeat (first | (with_reducible first | exact HB.out | apply below_alloc | apply pw_below_drewN | apply below_drew1 | refine below_set ?_ GE136.out | refine below_set ?_ GE138.out) | exact HB.out))⟩; clear HO_139000 BK136 BK138 HB hq_; have HO_139000 := n0_; have BK136 := n1_; have BK138 := n2_; have HB := n3_; clear n0_ n1_ n2_ n3_)); have hnb28 := NB138_136.out; have hnc28 := NB136_138.out; have hcz29_0 : wr.cell? ⟨gb138, 0, none⟩ = some (u139000) := (blk_cell BK138.out 0).trans rfl; have hcz29_1 : wr.cell? ⟨gb138, 1, none⟩ = some (.int .i64 x139001_2) := (blk_cell BK138.out 1).trans rfl; have hcz29_2 : wr.cell? ⟨gb138, 2, none⟩ = some (.int .i64 x139002_2) := (blk_cell BK138.out 2).trans rfl; have hcz29_3 : wr.cell? ⟨gb138, 3, none⟩ = some (.int .i64 x139003_2) := (blk_cell BK138.out 3).trans rfl; have hfz29_0 := blk_frozen BK138.out 0; have hfz29_1 := blk_frozen BK138.out 1; have hfz29_2 := blk_frozen BK138.out 2; have hfz29_3 := blk_frozen BK138.out 3; obtain ⟨Ao30, co30, eo30⟩ := Kd.R_slice HO_139000.out; subst eo30; have hcz31_0 : wr.cell? ⟨gb136, 0, none⟩ = some (.slice none 0 0) := (blk_cell BK136.out 0).trans rfl; have hcz31_1 : wr.cell? ⟨gb136, 1, none⟩ = some (.int .i64 x137001_2) := (blk_cell BK136.out 1).trans rfl; have hcz31_2 : wr.cell? ⟨gb136, 2, none⟩ = some (.int .i64 x137002_2) := (blk_cell BK136.out 2).trans rfl; have hcz31_3 : wr.cell? ⟨gb136, 3, none⟩ = some (.int .i64 x137003_2) := (blk_cell BK136.out 3).trans rfl; have hfz31_0 := blk_frozen BK136.out 0; have hfz31_1 := blk_frozen BK136.out 1; have hfz31_2 := blk_frozen BK136.out 2; have hfz31_3 := blk_frozen BK136.out 3))
                    refine bodyPost_ret (results_cell_row rfl _ _ gb136 36 #[.slice Ao30 x139000_2.length co30, .int .i64 t145, .int .i64 t146, .int .i64 t147] (0, 0) _ rfl (by (with_reducible repeat (first | refine blk_drewN ?_ _ | refine blk_drew ?_ | refine blk_alloc ?_ _)); refine blk_put (cs := #[.slice Ao30 x139000_2.length co30, .int .i64 t145, .int .i64 t146, .int .i64 x137003_2]) ?_ 3 _ rfl; (with_reducible repeat (first | refine blk_drewN ?_ _ | refine blk_drew ?_ | refine blk_alloc ?_ _)); refine blk_put (cs := #[.slice Ao30 x139000_2.length co30, .int .i64 t145, .int .i64 x137002_2, .int .i64 x137003_2]) ?_ 2 _ rfl; (with_reducible repeat (first | refine blk_drewN ?_ _ | refine blk_drew ?_ | refine blk_alloc ?_ _)); refine blk_put (cs := #[.slice Ao30 x139000_2.length co30, .int .i64 x137001_2, .int .i64 x137002_2, .int .i64 x137003_2]) ?_ 1 _ rfl; (with_reducible repeat (first | refine blk_drewN ?_ _ | refine blk_drew ?_ | refine blk_alloc ?_ _)); refine blk_put (cs := #[.slice none 0 0, .int .i64 x137001_2, .int .i64 x137002_2, .int .i64 x137003_2]) ?_ 0 _ rfl; (with_reducible repeat (first | refine blk_drewN ?_ _ | refine blk_drew ?_ | refine blk_alloc ?_ _)); refine blk_far ?_ NB136_138.out _; (with_reducible repeat (first | refine blk_drewN ?_ _ | refine blk_drew ?_ | refine blk_alloc ?_ _)); refine blk_far ?_ NB136_138.out _; (with_reducible repeat (first | refine blk_drewN ?_ _ | refine blk_drew ?_ | refine blk_alloc ?_ _)); refine blk_far ?_ NB136_138.out _; (with_reducible repeat (first | refine blk_drewN ?_ _ | refine blk_drew ?_ | refine blk_alloc ?_ _)); exact BK136.out) Try.underlying36 rfl (by kernel_rfl)) rfl ?_
                    exact ⟨_, by first | rfl | (simp [errW_none, errW_some] <;> rfl) | (simp [*, errW_none, errW_some] <;> rfl), by (with_reducible repeat (first | apply Kd.R_alloc | apply Kd.R_drewN | apply Kd.R_drew)); exact Kd.R_mono (Kd.R_far (p := ⟨gb136, 3, none⟩) (Kd.R_far (p := ⟨gb136, 2, none⟩) (Kd.R_far (p := ⟨gb136, 1, none⟩) (Kd.R_far (p := ⟨gb136, 0, none⟩) (Kd.R_far (p := ⟨gb138, 3, none⟩) (Kd.R_far (p := ⟨gb138, 2, none⟩) (Kd.R_far (p := ⟨gb138, 1, none⟩) (Kd.R_types (Kd.R_types HO_139000.out BK138.out (by decide)) BK136.out (by decide)) (fun _ hk => hk.1.2) (.int .i64 t145)) (fun _ hk => hk.1.2) (.int .i64 t146)) (fun _ hk => hk.1.2) (.int .i64 t147)) (fun _ hk => hk.2) (.slice Ao30 x139000_2.length co30)) (fun _ hk => hk.2) (.int .i64 t145)) (fun _ hk => hk.2) (.int .i64 t146)) (fun _ hk => hk.2) (.int .i64 t147)) (fun _ hk => trivial), by repeat (first | (with_reducible first | exact HB.out | apply below_alloc | apply pw_below_drewN | apply below_drew1 | refine below_set ?_ GE136.out | refine below_set ?_ GE138.out) | exact HB.out)⟩
                  · rw [if_neg c27] at H
                    have c27b0 : decide (t144 < 0) = false := decide_eq_false c27
                    clear c27
                    by_cases c32 : x139000_2.length < 4398046511104
                    · rw [if_pos c32] at H
                      have LMc32 := Aside0.mk c32
                      clear c32
                      obtain ⟨y148, hy148⟩ : ∃ y_ : List (S78), y_ = (x139000_2 ++ [(⟨false, 0, t143⟩ : S78)]) := ⟨_, rfl⟩
                      replace H : (depotref03_Read.l0 k2 a0 a1 x2_3 t144 (wrap64 (x10_2 + 1)) y148 x139001_2 x139002_2 x139003_2) = some (r1, r2, r3, r4) := by first | (rw [hy148]; with_reducible exact H) | (have H2_ := (Option.bind_some _ _).symm.trans H; rw [hy148]; with_reducible exact H2_) | (have H2_ := (Option.bind_some _ _).symm.trans H; with_reducible exact H2_) | with_reducible exact H | (rw [hy148]; exact H) | exact H
                      have Ny148 := Aside0.mk hy148
                      clear hy148
                      have H' := Aside0.mk H
                      clear H
                      have p13 : 0 ≤ (x10_2 : Int) := of_decide_eq_true (by first | (with_reducible assumption) | assumption)
                      have q13 : x10_2 < (a1.size : Int) := of_decide_eq_true (by first | (with_reducible assumption) | assumption)
                      have hx13 := bt_at a1 x10_2
                      replace p13 := eq_true p13
                      replace q13 := eq_true q13
                      go_wp2_with (first | ((with_reducible refine gate_callee (f := 36) rfl ?_); refine goesL_ (some 58) rfl rfl Try.func36 (by kernel_rfl) rfl #[.string a0, .int .i64 x9_2, .int .i64 x2_3] rfl (by (try simp only [List.map_toArray, List.map_cons, List.map_nil]); first | done | rfl | (simp only [List.length_drop, List.length_take]; rfl)) ?_; (with_reducible refine (depotref03_OneText.calls k2 a0 x9_2 x2_3 t143 t144 t145 t146 t147 _ A26.out).mono ?_); rintro e w' ⟨rfl, ⟨nd, rfl⟩⟩; refine ⟨_, rfl, ?_⟩; (try (rw [drewN_self wr]; generalize hq_ : World.drewN wr _ = wr; have n0_ : Aside0 (Kd.R k78 78 wr w.heap.size (fun _ => True) u139000 x139000_2) := ⟨by rw [← hq_]; exact (by (with_reducible repeat (first | apply Kd.R_alloc | apply Kd.R_drewN | apply Kd.R_drew)); exact HO_139000.out)⟩; have n1_ : Aside0 (wr.heap[gb136]? = some (.cells #[.slice none 0 0, .int .i64 x137001_2, .int .i64 x137002_2, .int .i64 x137003_2] 36 (0, 0))) := ⟨by rw [← hq_]; exact (by (with_reducible repeat (first | refine blk_drewN ?_ _ | refine blk_drew ?_ | refine blk_alloc ?_ _)); exact BK136.out)⟩; have n2_ : Aside0 (wr.heap[gb138]? = some (.cells #[u139000, .int .i64 x139001_2, .int .i64 x139002_2, .int .i64 x139003_2] 36 (0, 0))) := ⟨by rw [← hq_]; exact (by (with_reducible repeat (first | refine blk_drewN ?_ _ | refine blk_drew ?_ | refine blk_alloc ?_ _)); exact BK138.out)⟩; have n3_ : Aside0 (Below w.heap.size w wr) := ⟨by rw [← hq_]; exact (by repeat (first | (with_reducible first | exact HB.out | apply below_alloc | apply pw_below_drewN | apply below_drew1 | refine below_set ?_ GE136.out | refine below_set ?_ GE138.out) | exact HB.out))⟩; clear HO_139000 BK136 BK138 HB hq_; have HO_139000 := n0_; have BK136 := n1_; have BK138 := n2_; have HB := n3_; clear n0_ n1_ n2_ n3_)); have hnb33 := NB138_136.out; have hnc33 := NB136_138.out; have hcz34_0 : wr.cell? ⟨gb138, 0, none⟩ = some (u139000) := (blk_cell BK138.out 0).trans rfl; have hcz34_1 : wr.cell? ⟨gb138, 1, none⟩ = some (.int .i64 x139001_2) := (blk_cell BK138.out 1).trans rfl; have hcz34_2 : wr.cell? ⟨gb138, 2, none⟩ = some (.int .i64 x139002_2) := (blk_cell BK138.out 2).trans rfl; have hcz34_3 : wr.cell? ⟨gb138, 3, none⟩ = some (.int .i64 x139003_2) := (blk_cell BK138.out 3).trans rfl; have hfz34_0 := blk_frozen BK138.out 0; have hfz34_1 := blk_frozen BK138.out 1; have hfz34_2 := blk_frozen BK138.out 2; have hfz34_3 := blk_frozen BK138.out 3) | ((with_reducible refine gate_builtin (b := .append) (xs := #[.tmp 74, .tmp 77]) rfl ?_); at_builtin; refine Kd.R_append k78 (w0 := w) w.heap.size rfl (.tmp 74) (.tmp 77) 34 78 (.agg #[(.bool false), (.int .u64 0), (.string ⟨#[]⟩)]) 32 rfl Try.underlying34 info78 rfl (by decide) (by omega) u139000 x139000_2 (⟨false, 0, t143⟩ : S78) [.bool false, .int .u64 0, .string t143] (fun _ => True) (fun _ => False) rfl rfl ?aP (fun _ hk => hk.elim) ?aF ?aO ?aB ?aS ?aL ?_; (case aP => exact k78_mkM _ _ _ (⟨false, 0, t143⟩ : S78)); (case aB => exact (by repeat (first | (with_reducible first | exact HB.out | apply below_alloc | apply pw_below_drewN | apply below_drew1 | refine below_set ?_ GE136.out | refine below_set ?_ GE138.out) | exact HB.out))); (case aF => exact (fun _ _ => trivial)); (case aO => exact (by (with_reducible repeat (first | apply Kd.R_alloc | apply Kd.R_drewN | apply Kd.R_drew)); exact HO_139000.out)); (case aS => exact (below_size (by repeat (first | (with_reducible first | exact HB.out | apply below_alloc | apply pw_below_drewN | apply below_drew1 | refine below_set ?_ GE136.out | refine below_set ?_ GE138.out) | exact HB.out)))); (case aL => have := LMc32.out; omega); intro v149 w35 ho hb hg hat; rw [← Ny148.out] at ho; have n0_ := Aside0.mk (blk_grown (g := gb136) (o := .cells #[.slice none 0 0, .int .i64 x137001_2, .int .i64 x137002_2, .int .i64 x137003_2] 36 (0, 0)) (by (with_reducible repeat (first | refine blk_drewN ?_ _ | refine blk_drew ?_ | refine blk_alloc ?_ _)); exact BK136.out) hg (Kd.R_ne HO_139000.out BK136.out (by decide))); have n1_ := Aside0.mk (blk_grown (g := gb138) (o := .cells #[u139000, .int .i64 x139001_2, .int .i64 x139002_2, .int .i64 x139003_2] 36 (0, 0)) (by (with_reducible repeat (first | refine blk_drewN ?_ _ | refine blk_drew ?_ | refine blk_alloc ?_ _)); exact BK138.out) hg (Kd.R_ne HO_139000.out BK138.out (by decide))); have n2_ := Aside0.mk (hb); have n3_ := Aside0.mk (ho); clear BK136; clear BK138; clear HB; clear HO_139000; have BK136 := n0_; have BK138 := n1_; have HB := n2_; have HO150 := n3_; clear n0_ n1_ n2_ n3_; clear ho hb hg hat; obtain ⟨Ao36, co36, eo36⟩ := Kd.R_slice HO150.out; subst eo36; have hcz37_0 : w35.cell? ⟨gb138, 0, none⟩ = some (u139000) := (blk_cell BK138.out 0).trans rfl; have hcz37_1 : w35.cell? ⟨gb138, 1, none⟩ = some (.int .i64 x139001_2) := (blk_cell BK138.out 1).trans rfl; have hcz37_2 : w35.cell? ⟨gb138, 2, none⟩ = some (.int .i64 x139002_2) := (blk_cell BK138.out 2).trans rfl; have hcz37_3 : w35.cell? ⟨gb138, 3, none⟩ = some (.int .i64 x139003_2) := (blk_cell BK138.out 3).trans rfl; have hfz37_0 := blk_frozen BK138.out 0; have hfz37_1 := blk_frozen BK138.out 1; have hfz37_2 := blk_frozen BK138.out 2; have hfz37_3 := blk_frozen BK138.out 3))
                      go_roundg k2
                      case measure => have := HJ3.out; have := HK2.out; omega
                      case rel => exact ⟨(t144), (wrap64 (x10_2 + 1)), (x137001_2), (x137002_2), (x137003_2), (y148), (x139001_2), (x139002_2), (x139003_2), (.slice Ao36 y148.length co36), (by first | rfl | (simp; done) | (simp [*]; done)), (by first | rfl | (simp; done) | (simp [*]; done)), H', ⟨by have := HJ3.out; have := HK2.out; omega⟩, ⟨by (with_reducible repeat (first | apply Kd.R_alloc | apply Kd.R_drewN | apply Kd.R_drew)); exact Kd.R_mono (Kd.R_far (p := ⟨gb138, 0, none⟩) (Kd.R_types HO150.out BK138.out (by decide)) (fun _ hk => hk.2) (.slice Ao36 y148.length co36)) (fun _ hk => trivial)⟩, ⟨by (with_reducible repeat (first | refine blk_drewN ?_ _ | refine blk_drew ?_ | refine blk_alloc ?_ _)); refine blk_far ?_ NB136_138.out _; (with_reducible repeat (first | refine blk_drewN ?_ _ | refine blk_drew ?_ | refine blk_alloc ?_ _)); exact BK136.out⟩, ⟨by (with_reducible repeat (first | refine blk_drewN ?_ _ | refine blk_drew ?_ | refine blk_alloc ?_ _)); refine blk_put (cs := #[u139000, .int .i64 x139001_2, .int .i64 x139002_2, .int .i64 x139003_2]) ?_ 0 _ rfl; (with_reducible repeat (first | refine blk_drewN ?_ _ | refine blk_drew ?_ | refine blk_alloc ?_ _)); exact BK138.out⟩, ⟨by repeat (first | (with_reducible first | exact HB.out | apply below_alloc | apply pw_below_drewN | apply below_drew1 | refine below_set ?_ GE136.out | refine below_set ?_ GE138.out) | exact HB.out)⟩⟩
                    · rw [if_neg c32] at H
                      exact absurd H (by simp)
              · rw [if_neg c12] at H
                exact absurd H (by simp)
            · rw [if_neg c11] at H
              have c11b0 : decide (x10_2 < (a1.size : Int)) = false := decide_eq_false c11
              clear c11
              by_cases c38 : x9_2 < (a0.size : Int)
              · rw [if_pos c38] at H
                have c38b0 : decide (x9_2 < (a0.size : Int)) = true := decide_eq_true c38
                clear c38
                simp only [Option.some.injEq, Prod.mk.injEq] at H
                obtain ⟨rfl, rfl, rfl, rfl⟩ := H
                have hnb39 := NB138_136.out
                have hnc39 := NB136_138.out
                have hcz40_0 : wr.cell? ⟨gb138, 0, none⟩ = some (u139000) := (blk_cell BK138.out 0).trans rfl
                have hcz40_1 : wr.cell? ⟨gb138, 1, none⟩ = some (.int .i64 x139001_2) := (blk_cell BK138.out 1).trans rfl
                have hcz40_2 : wr.cell? ⟨gb138, 2, none⟩ = some (.int .i64 x139002_2) := (blk_cell BK138.out 2).trans rfl
                have hcz40_3 : wr.cell? ⟨gb138, 3, none⟩ = some (.int .i64 x139003_2) := (blk_cell BK138.out 3).trans rfl
                have hfz40_0 := blk_frozen BK138.out 0
                have hfz40_1 := blk_frozen BK138.out 1
                have hfz40_2 := blk_frozen BK138.out 2
                have hfz40_3 := blk_frozen BK138.out 3
                obtain ⟨Ao41, co41, eo41⟩ := Kd.R_slice HO_139000.out
                subst eo41
                have hcz42_0 : wr.cell? ⟨gb136, 0, none⟩ = some (.slice none 0 0) := (blk_cell BK136.out 0).trans rfl
                have hcz42_1 : wr.cell? ⟨gb136, 1, none⟩ = some (.int .i64 x137001_2) := (blk_cell BK136.out 1).trans rfl
                have hcz42_2 : wr.cell? ⟨gb136, 2, none⟩ = some (.int .i64 x137002_2) := (blk_cell BK136.out 2).trans rfl
                have hcz42_3 : wr.cell? ⟨gb136, 3, none⟩ = some (.int .i64 x137003_2) := (blk_cell BK136.out 3).trans rfl
                have hfz42_0 := blk_frozen BK136.out 0
                have hfz42_1 := blk_frozen BK136.out 1
                have hfz42_2 := blk_frozen BK136.out 2
                have hfz42_3 := blk_frozen BK136.out 3
                go_wp2
                refine bodyPost_ret (results_cell_row rfl _ _ gb136 36 #[.slice Ao41 x139000_2.length co41, .int .i64 5, .int .i64 x9_2, .int .i64 x9_2] (0, 0) _ rfl (by (with_reducible repeat (first | refine blk_drewN ?_ _ | refine blk_drew ?_ | refine blk_alloc ?_ _)); refine blk_put (cs := #[.slice Ao41 x139000_2.length co41, .int .i64 5, .int .i64 x9_2, .int .i64 x137003_2]) ?_ 3 _ rfl; (with_reducible repeat (first | refine blk_drewN ?_ _ | refine blk_drew ?_ | refine blk_alloc ?_ _)); refine blk_put (cs := #[.slice Ao41 x139000_2.length co41, .int .i64 5, .int .i64 x137002_2, .int .i64 x137003_2]) ?_ 2 _ rfl; (with_reducible repeat (first | refine blk_drewN ?_ _ | refine blk_drew ?_ | refine blk_alloc ?_ _)); refine blk_put (cs := #[.slice Ao41 x139000_2.length co41, .int .i64 x137001_2, .int .i64 x137002_2, .int .i64 x137003_2]) ?_ 1 _ rfl; (with_reducible repeat (first | refine blk_drewN ?_ _ | refine blk_drew ?_ | refine blk_alloc ?_ _)); refine blk_put (cs := #[.slice none 0 0, .int .i64 x137001_2, .int .i64 x137002_2, .int .i64 x137003_2]) ?_ 0 _ rfl; (with_reducible repeat (first | refine blk_drewN ?_ _ | refine blk_drew ?_ | refine blk_alloc ?_ _)); refine blk_far ?_ NB136_138.out _; (with_reducible repeat (first | refine blk_drewN ?_ _ | refine blk_drew ?_ | refine blk_alloc ?_ _)); refine blk_far ?_ NB136_138.out _; (with_reducible repeat (first | refine blk_drewN ?_ _ | refine blk_drew ?_ | refine blk_alloc ?_ _)); refine blk_far ?_ NB136_138.out _; (with_reducible repeat (first | refine blk_drewN ?_ _ | refine blk_drew ?_ | refine blk_alloc ?_ _)); exact BK136.out) Try.underlying36 rfl (by kernel_rfl)) rfl ?_
                exact ⟨_, by first | rfl | (simp [errW_none, errW_some] <;> rfl) | (simp [*, errW_none, errW_some] <;> rfl), by (with_reducible repeat (first | apply Kd.R_alloc | apply Kd.R_drewN | apply Kd.R_drew)); exact Kd.R_mono (Kd.R_far (p := ⟨gb136, 3, none⟩) (Kd.R_far (p := ⟨gb136, 2, none⟩) (Kd.R_far (p := ⟨gb136, 1, none⟩) (Kd.R_far (p := ⟨gb136, 0, none⟩) (Kd.R_far (p := ⟨gb138, 2, none⟩) (Kd.R_far (p := ⟨gb138, 1, none⟩) (Kd.R_far (p := ⟨gb138, 3, none⟩) (Kd.R_types (Kd.R_types HO_139000.out BK138.out (by decide)) BK136.out (by decide)) (fun _ hk => hk.1.2) (.int .i64 x9_2)) (fun _ hk => hk.1.2) (.int .i64 5)) (fun _ hk => hk.1.2) (.int .i64 x9_2)) (fun _ hk => hk.2) (.slice Ao41 x139000_2.length co41)) (fun _ hk => hk.2) (.int .i64 5)) (fun _ hk => hk.2) (.int .i64 x9_2)) (fun _ hk => hk.2) (.int .i64 x9_2)) (fun _ hk => trivial), by repeat (first | (with_reducible first | exact HB.out | apply below_alloc | apply pw_below_drewN | apply below_drew1 | refine below_set ?_ GE136.out | refine below_set ?_ GE138.out) | exact HB.out)⟩
              · rw [if_neg c38] at H
                have c38b0 : decide (x9_2 < (a0.size : Int)) = false := decide_eq_false c38
                clear c38
                simp only [Option.some.injEq, Prod.mk.injEq] at H
                obtain ⟨rfl, rfl, rfl, rfl⟩ := H
                have hnb43 := NB138_136.out
                have hnc43 := NB136_138.out
                have hcz44_0 : wr.cell? ⟨gb138, 0, none⟩ = some (u139000) := (blk_cell BK138.out 0).trans rfl
                have hcz44_1 : wr.cell? ⟨gb138, 1, none⟩ = some (.int .i64 x139001_2) := (blk_cell BK138.out 1).trans rfl
                have hcz44_2 : wr.cell? ⟨gb138, 2, none⟩ = some (.int .i64 x139002_2) := (blk_cell BK138.out 2).trans rfl
                have hcz44_3 : wr.cell? ⟨gb138, 3, none⟩ = some (.int .i64 x139003_2) := (blk_cell BK138.out 3).trans rfl
                have hfz44_0 := blk_frozen BK138.out 0
                have hfz44_1 := blk_frozen BK138.out 1
                have hfz44_2 := blk_frozen BK138.out 2
                have hfz44_3 := blk_frozen BK138.out 3
                obtain ⟨Ao45, co45, eo45⟩ := Kd.R_slice HO_139000.out
                subst eo45
                have hcz46_0 : wr.cell? ⟨gb136, 0, none⟩ = some (.slice none 0 0) := (blk_cell BK136.out 0).trans rfl
                have hcz46_1 : wr.cell? ⟨gb136, 1, none⟩ = some (.int .i64 x137001_2) := (blk_cell BK136.out 1).trans rfl
                have hcz46_2 : wr.cell? ⟨gb136, 2, none⟩ = some (.int .i64 x137002_2) := (blk_cell BK136.out 2).trans rfl
                have hcz46_3 : wr.cell? ⟨gb136, 3, none⟩ = some (.int .i64 x137003_2) := (blk_cell BK136.out 3).trans rfl
                have hfz46_0 := blk_frozen BK136.out 0
                have hfz46_1 := blk_frozen BK136.out 1
                have hfz46_2 := blk_frozen BK136.out 2
                have hfz46_3 := blk_frozen BK136.out 3
                go_wp2
                refine bodyPost_ret (results_cell_row rfl _ _ gb136 36 #[.slice Ao45 x139000_2.length co45, .int .i64 x139001_2, .int .i64 x139002_2, .int .i64 x9_2] (0, 0) _ rfl (by (with_reducible repeat (first | refine blk_drewN ?_ _ | refine blk_drew ?_ | refine blk_alloc ?_ _)); refine blk_put (cs := #[.slice Ao45 x139000_2.length co45, .int .i64 x139001_2, .int .i64 x139002_2, .int .i64 x137003_2]) ?_ 3 _ rfl; (with_reducible repeat (first | refine blk_drewN ?_ _ | refine blk_drew ?_ | refine blk_alloc ?_ _)); refine blk_put (cs := #[.slice Ao45 x139000_2.length co45, .int .i64 x139001_2, .int .i64 x137002_2, .int .i64 x137003_2]) ?_ 2 _ rfl; (with_reducible repeat (first | refine blk_drewN ?_ _ | refine blk_drew ?_ | refine blk_alloc ?_ _)); refine blk_put (cs := #[.slice Ao45 x139000_2.length co45, .int .i64 x137001_2, .int .i64 x137002_2, .int .i64 x137003_2]) ?_ 1 _ rfl; (with_reducible repeat (first | refine blk_drewN ?_ _ | refine blk_drew ?_ | refine blk_alloc ?_ _)); refine blk_put (cs := #[.slice none 0 0, .int .i64 x137001_2, .int .i64 x137002_2, .int .i64 x137003_2]) ?_ 0 _ rfl; (with_reducible repeat (first | refine blk_drewN ?_ _ | refine blk_drew ?_ | refine blk_alloc ?_ _)); refine blk_far ?_ NB136_138.out _; (with_reducible repeat (first | refine blk_drewN ?_ _ | refine blk_drew ?_ | refine blk_alloc ?_ _)); exact BK136.out) Try.underlying36 rfl (by kernel_rfl)) rfl ?_
                exact ⟨_, by first | rfl | (simp [errW_none, errW_some] <;> rfl) | (simp [*, errW_none, errW_some] <;> rfl), by (with_reducible repeat (first | apply Kd.R_alloc | apply Kd.R_drewN | apply Kd.R_drew)); exact Kd.R_mono (Kd.R_far (p := ⟨gb136, 3, none⟩) (Kd.R_far (p := ⟨gb136, 2, none⟩) (Kd.R_far (p := ⟨gb136, 1, none⟩) (Kd.R_far (p := ⟨gb136, 0, none⟩) (Kd.R_far (p := ⟨gb138, 3, none⟩) (Kd.R_types (Kd.R_types HO_139000.out BK138.out (by decide)) BK136.out (by decide)) (fun _ hk => hk.1.2) (.int .i64 x9_2)) (fun _ hk => hk.2) (.slice Ao45 x139000_2.length co45)) (fun _ hk => hk.2) (.int .i64 x139001_2)) (fun _ hk => hk.2) (.int .i64 x139002_2)) (fun _ hk => hk.2) (.int .i64 x9_2)) (fun _ hk => trivial), by repeat (first | (with_reducible first | exact HB.out | apply below_alloc | apply pw_below_drewN | apply below_drew1 | refine below_set ?_ GE136.out | refine below_set ?_ GE138.out) | exact HB.out)⟩

end Go.Proofs.Ytnilogameaaooaa.Q
/- Small helpers of the walks: quiet calls behind draws. -/
set_option linter.unusedVariables false
set_option linter.unusedSimpArgs false
namespace Go.Proofs.Ytnilogameaaooaa.Kit
open Go Go.RowKit
variable {P : Program} {f : FuncId} {args : Array Value} {w : World} {a n : Nat} {v : Value}
theorem quiet_more (h : Calls P f args (w.drewN (a + n)) fun e w' => e = .returned v ∧ ∃ m, w' = (w.drewN (a + n)).drewN m) :
    Calls P f args (w.drewN (a + n)) fun e w'' => e = .returned v ∧ ∃ m, w'' = w.drewN (a + m) :=
  h.mono fun _ _ ⟨he, m, hm⟩ => ⟨he, n + m, by rw [hm, World.drewN_drewN, Nat.add_assoc]⟩
theorem quiet_more_same (h : Calls P f args (w.drewN (a + n)) fun e w' => e = .returned v ∧ w' = w.drewN (a + n)) :
    Calls P f args (w.drewN (a + n)) fun e w'' => e = .returned v ∧ ∃ m, w'' = w.drewN (a + m) :=
  h.mono fun _ _ ⟨he, hm⟩ => ⟨he, n, hm⟩
end Go.Proofs.Ytnilogameaaooaa.Kit
/- wire.Reader, walked by hand: its twelve cells, and what each method does to them. -/
namespace Go.Proofs.Ytnilogameaaooaa.Rdr
open Go.RowKit Go.Proofs.Ytnilogameaaooaa.Q Go.Proofs.YtnilogameaaooaaW.PrintWords Go.Proofs.YtnilogameaaooaaW.PrintLast Go.Proofs.YtnilogameaaooaaW.PrintMore Go.Proofs.Ytnilogameaaooaa.Bytes
set_option linter.unusedVariables false
set_option linter.unusedSimpArgs false

/-- What stands in a reader. -/
structure Rd where
  taken : Int
  code : Int
  place : Int
  shut : Bool
  plan : ByteArray
  most : Int
  item : Int
  start : Int
  state : Int
  num : Int
  need : Int
  v : Value
def Rd.cells (r : Rd) : Array Value := #[.int .i64 r.taken, .int .i64 r.code, .int .i64 r.place, .bool r.shut, .string r.plan, .int .i64 r.most, .int .i64 r.item, .int .i64 r.start, .int .i64 r.state, .int .u64 r.num, .int .i64 r.need, r.v]
def Rd.At (r : Rd) (w : World) (b : Nat) : Prop := w.heap[b]? = some (.cells r.cells 71 (0, 0))
theorem Rd.At.cell {r : Rd} {w : World} {b : Nat} (h : r.At w b) (i : Nat) : w.cell? ⟨b, i, none⟩ = r.cells[i]? := cell_of_row w b i _ _ _ h
theorem Rd.At.fro {r : Rd} {w : World} {b : Nat} (h : r.At w b) (i : Nat) : w.frozen? ⟨b, i, none⟩ = false := by
  unfold Rd.At at h
  simp [World.frozen?, h]
theorem Rd.At.set {r : Rd} {w : World} {b : Nat} (h : r.At w b) (i : Nat) (u : Value) (r' : Rd) (e : r'.cells = r.cells.setIfInBounds i u) : r'.At (w.setCell ⟨b, i, none⟩ u) b := by
  unfold Rd.At at h ⊢
  simp [World.setCell, Array.getElem?_modify, h, e]
theorem results_c {P : Program} {fn : Func} {p : Tmp} {ty : TypeId} (h : fn.results = #[.cell p ty]) (tmps : Array Value) (w : World) (g : Nat) (t : TypeId) (cs : Array Value) (fr : Nat × Nat) (d : TypeDesc)
    (hp : tmps.getD p undef = .pointer (some ⟨g, 0, none⟩)) (hg : w.heap[g]? = some (.cells cs t fr))
    (hu : P.underlying ty = some d) (hd : (match d with | .struct _ | .array _ _ => true | _ => false) = true) (hi : (P.info? ty).map (·.size) = some cs.size) :
    (results fn tmps).run P w = .ok (.agg cs) w := by
  have hp' : tmps[p]?.getD undef = .pointer (some ⟨g, 0, none⟩) := by simpa using hp
  simp [results, h, hp', asAddr, run_loadVar_row w g t ty cs fr d hg hu hd hi]
theorem at2 {X w : World} (h : X.heap.size = w.heap.size) (o1 o2 : Obj) : ((X.alloc o1).alloc o2).heap[w.heap.size + 1]? = some o2 := by
  have e : w.heap.size + 1 = (X.alloc o1).heap.size := by simp [World.alloc, h, -World.alloc_eq]
  rw [e]
  exact heap_alloc_new _ _
section
variable {r : Rd} {w : World} {b : Nat}
theorem Rd.At.c0 (h : r.At w b) : w.cell? ⟨b, 0, none⟩ = some (.int .i64 r.taken) := h.cell 0
theorem Rd.At.c1 (h : r.At w b) : w.cell? ⟨b, 1, none⟩ = some (.int .i64 r.code) := h.cell 1
theorem Rd.At.c2 (h : r.At w b) : w.cell? ⟨b, 2, none⟩ = some (.int .i64 r.place) := h.cell 2
theorem Rd.At.c3 (h : r.At w b) : w.cell? ⟨b, 3, none⟩ = some (.bool r.shut) := h.cell 3
theorem Rd.At.c4 (h : r.At w b) : w.cell? ⟨b, 4, none⟩ = some (.string r.plan) := h.cell 4
theorem Rd.At.c5 (h : r.At w b) : w.cell? ⟨b, 5, none⟩ = some (.int .i64 r.most) := h.cell 5
theorem Rd.At.c6 (h : r.At w b) : w.cell? ⟨b, 6, none⟩ = some (.int .i64 r.item) := h.cell 6
theorem Rd.At.c7 (h : r.At w b) : w.cell? ⟨b, 7, none⟩ = some (.int .i64 r.start) := h.cell 7
theorem Rd.At.c8 (h : r.At w b) : w.cell? ⟨b, 8, none⟩ = some (.int .i64 r.state) := h.cell 8
theorem Rd.At.c9 (h : r.At w b) : w.cell? ⟨b, 9, none⟩ = some (.int .u64 r.num) := h.cell 9
theorem Rd.At.c10 (h : r.At w b) : w.cell? ⟨b, 10, none⟩ = some (.int .i64 r.need) := h.cell 10
theorem Rd.At.c11 (h : r.At w b) : w.cell? ⟨b, 11, none⟩ = some r.v := h.cell 11
theorem Rd.At.lt (h : r.At w b) : b < w.heap.size := (Array.getElem?_eq_some_iff.1 h).1
end
theorem grown_set (w : World) (b i : Nat) (u : Value) : w.grownBy (w.setCell ⟨b, i, none⟩ u) (some b) :=
  ⟨rfl, rfl, rfl, by simp [World.setCell], fun k _ hk => Below.heap_setCell _ _ _ _ (fun e => hk (by rw [e]))⟩
theorem grown_trans {w w1 w2 : World} {row : Option Nat} (h : w.grownBy w1 row) (k : w1.grownBy w2 row) : w.grownBy w2 row :=
  ⟨k.os.trans h.os, k.tape.trans h.tape, k.output.trans h.output, Nat.le_trans h.size k.size, fun i hi hn => (k.block i (Nat.lt_of_lt_of_le hi h.size) hn).trans (h.block i hi hn)⟩
theorem grown_none {w w1 : World} {row : Option Nat} (h : w.grownBy w1 none) : w.grownBy w1 row := ⟨h.os, h.tape, h.output, h.size, fun k hk _ => h.block k hk (by simp)⟩
/-- What a method that only turns the reader leaves. -/
def Turned (w w' : World) (b : Nat) (r' : Rd) : Prop := r'.At w' b ∧ w.grownBy w' (some b)
theorem Turned.refl {w : World} {b : Nat} {r : Rd} (h : r.At w b) : Turned w w b r := ⟨h, rfl, rfl, rfl, Nat.le_refl _, fun _ _ _ => rfl⟩
theorem Turned.set {w w' : World} {b : Nat} {r r' : Rd} (h : Turned w w' b r) (i : Nat) (u : Value) (e : r'.cells = r.cells.setIfInBounds i u) : Turned w (w'.setCell ⟨b, i, none⟩ u) b r' := ⟨h.1.set i u r' e, grown_trans h.2 (grown_set _ _ _ _)⟩
theorem Turned.alloc {w w' : World} {b : Nat} {r : Rd} (h : Turned w w' b r) (o : Obj) : Turned w (w'.alloc o) b r := ⟨(Below.heap_alloc w' o b (by have := h.1; unfold Rd.At at this; exact (Array.getElem?_eq_some_iff.1 this).1)).trans h.1, grown_trans h.2 (grown_none (World.grownBy_alloc _ o none))⟩
theorem Turned.trans {w w1 w2 : World} {b : Nat} {r r' : Rd} (h : Turned w w1 b r) (k : Turned w1 w2 b r') : Turned w w2 b r' := ⟨k.1, grown_trans h.2 k.2⟩
theorem Turned.drewN {w w' : World} {b : Nat} {r : Rd} (h : Turned w w' b r) (n : Nat) : Turned w (w'.drewN n) b r := ⟨h.1, ⟨h.2.os, h.2.tape, h.2.output, h.2.size, h.2.block⟩⟩
set_option maxHeartbeats 2000000 in
set_option maxRecDepth 100000 in
theorem fail_calls (r : Rd) (w : World) (b : Nat) (h : r.At w b) (code place : Int) :
    Calls Try.prog 37 #[.pointer (some ⟨b, 0, none⟩), .int .i64 code, .int .i64 place] w fun e w' => e = .returned (.tuple #[]) ∧ Turned w w' b { r with code := code, place := place } ∧ w'.heap.size = w.heap.size := by
  have H := Aside0.mk h
  have c1 := h.c1
  have c2 := h.c2
  have f1 := h.fro 1
  have f2 := h.fro 2
  clear h
  go_enter Try.func37, Try.ntmps37
  go_wp2
  go_end0
  exact ⟨by rfl, ((Turned.refl H.out).set 1 (.int .i64 code) (r' := { r with code := code }) rfl).set 2 (.int .i64 place) rfl, by simp [World.setCell]⟩
set_option maxHeartbeats 2000000 in
set_option maxRecDepth 100000 in
theorem stopped_calls (r : Rd) (w : World) (b : Nat) (h : r.At w b) :
    Calls Try.prog 38 #[.pointer (some ⟨b, 0, none⟩)] w fun e w' => e = .returned (.bool (r.shut || r.code != 0)) ∧ w' = w := by
  have c1 := h.c1
  have c3 := h.c3
  clear h
  obtain ⟨taken, code, place, shut, plan, most, item, start, state, num, need, v⟩ := r
  simp only at c1 c3
  cases shut with
  | true =>
    go_enter Try.func38, Try.ntmps38
    go_wp2
    go_ret
    exact ⟨rfl, rfl⟩
  | false =>
    go_enter Try.func38, Try.ntmps38
    go_wp2
    go_ret
    exact ⟨rfl, rfl⟩
set_option maxHeartbeats 2000000 in
set_option maxRecDepth 100000 in
theorem done_calls (r : Rd) (w : World) (b : Nat) (h : r.At w b) (i : Bool) (n : Int) (s : ByteArray) (hi : 0 ≤ r.item ∧ r.item < 9223372036854775807) :
    Calls Try.prog 47 #[.pointer (some ⟨b, 0, none⟩), .agg #[.bool i, .int .u64 n, .string s]] w fun e w' => e = .returned (.agg #[.bool i, .int .u64 n, .string s]) ∧ Turned w w' b { r with item := r.item + 1, start := r.taken, state := 0, need := 8, num := 0, v := .slice none 0 0 } := by
  have H := Aside0.mk h
  have hlt := h.lt
  have hlt1 : b < w.heap.size + 1 := by omega
  have hne : (w.heap.size = b) = False := eq_false (by omega)
  have hne1 : (w.heap.size + 1 = b) = False := eq_false (by omega)
  have c0 := h.c0
  have f0 := h.fro 0
  have c6 := h.c6
  have f6 := h.fro 6
  have c7 := h.c7
  have f7 := h.fro 7
  have c8 := h.c8
  have f8 := h.fro 8
  have c9 := h.c9
  have f9 := h.fro 9
  have c10 := h.c10
  have f10 := h.fro 10
  have c11 := h.c11
  have f11 := h.fro 11
  clear h
  go_enter Try.func47, Try.ntmps47
  go_wp2
  refine bodyPost_ret (results_c rfl _ _ (w.heap.size + 1) 55 _ (0, 0) _ rfl (at2 (by simp [World.setCell]) _ _) Try.underlying55 rfl rfl) rfl ⟨rfl, ?_⟩
  refine Turned.alloc (Turned.alloc ?_ _) _
  exact ((((((Turned.refl H.out).set 6 (.int .i64 (r.item + 1)) (r' := { r with item := r.item + 1 }) rfl).set 7 (.int .i64 r.taken) (r' := { r with item := r.item + 1, start := r.taken }) rfl).set 8 (.int .i64 0) (r' := { r with item := r.item + 1, start := r.taken, state := 0 }) rfl).set 10 (.int .i64 8) (r' := { r with item := r.item + 1, start := r.taken, state := 0, need := 8 }) rfl).set 9 (.int .u64 0) (r' := { r with item := r.item + 1, start := r.taken, state := 0, need := 8, num := 0 }) rfl).set 11 (.slice none 0 0) rfl
end Go.Proofs.Ytnilogameaaooaa.Rdr
/- wire.Reader.next, walked by hand, case by case. -/
namespace Go.Proofs.Ytnilogameaaooaa.Rdr
open Go.RowKit Go.Proofs.Ytnilogameaaooaa.Q Go.Proofs.YtnilogameaaooaaW.PrintWords Go.Proofs.YtnilogameaaooaaW.PrintLast Go.Proofs.YtnilogameaaooaaW.PrintMore Go.Proofs.Ytnilogameaaooaa.Bytes
set_option linter.unusedVariables false
set_option linter.unusedSimpArgs false

/-- The reader at the next item. -/
def Rd.next (r : Rd) : Rd := { r with item := r.item + 1, start := r.taken, state := 0, need := 8, num := 0, v := .slice none 0 0 }
theorem kept_block {W w1 : World} {b : Nat} {r' : Rd} (hT : Turned W w1 b r') {g : Nat} {o : Obj} (hg : W.heap[g]? = some o) (hne : g ≠ b) : w1.heap[g]? = some o :=
  (hT.2.block g (Array.getElem?_eq_some_iff.1 hg).1 (fun e => hne (by injection e))).trans hg
theorem set3 {w1 : World} {g : Nat} {a0 a1 a2 x0 x1 x2 : Value} {t : TypeId} (h : w1.heap[g]? = some (.cells #[a0, a1, a2] t (0, 0))) :
    (((w1.setCell ⟨g, 0, none⟩ x0).setCell ⟨g, 1, none⟩ x1).setCell ⟨g, 2, none⟩ x2).heap[g]? = some (.cells #[x0, x1, x2] t (0, 0)) := by
  simp [World.setCell, Array.getElem?_modify, h]
theorem Turned.other {w w' : World} {b : Nat} {r : Rd} (h : Turned w w' b r) {g : Nat} (hg : w.heap.size ≤ g) (hb : b < w.heap.size) (i : Nat) (u : Value) : Turned w (w'.setCell ⟨g, i, none⟩ u) b r := by
  refine ⟨(Below.heap_setCell w' ⟨g, i, none⟩ u b (by simp only; omega)).trans h.1, h.2.os, h.2.tape, h.2.output, by simpa [World.setCell] using h.2.size, fun k hk hn => (Below.heap_setCell w' ⟨g, i, none⟩ u k (by simp only; omega)).trans (h.2.block k hk hn)⟩
theorem cell3 {w1 : World} {g : Nat} {cs : Array Value} {t : TypeId} (h : w1.heap[g]? = some (.cells cs t (0, 0))) (i : Nat) : w1.cell? ⟨g, i, none⟩ = cs[i]? := cell_of_row w1 g i _ _ _ h
theorem fro3 {w1 : World} {g : Nat} {cs : Array Value} {t : TypeId} (h : w1.heap[g]? = some (.cells cs t (0, 0))) (i : Nat) : w1.frozen? ⟨g, i, none⟩ = false := by simp [World.frozen?, h]
theorem alloc_at {W : World} {b : Nat} {r : Rd} (h : r.At W b) (o : Obj) (n : Nat) : r.At ((W.alloc o).drewN n) b := (((Turned.refl h).alloc o).drewN n).1
theorem keep_set {w : World} {g b : Nat} {o : Obj} (h : w.heap[g]? = some o) (hne : g ≠ b) {i : Nat} {u : Value} : (w.setCell ⟨b, i, none⟩ u).heap[g]? = some o := (Below.heap_setCell w ⟨b, i, none⟩ u g hne).trans h
theorem from_alloc {w w' : World} {b : Nat} {r : Rd} {o : Obj} {n : Nat} (h : Turned ((w.alloc o).drewN n) w' b r) : Turned w w' b r := by
  have e : (w.alloc o).heap.size = w.heap.size + 1 := by simp [World.alloc, -World.alloc_eq]
  have hs : (w.alloc o).heap.size ≤ w'.heap.size := h.2.size
  exact ⟨h.1, h.2.os, h.2.tape, h.2.output, by omega, fun k hk hn => (h.2.block k (show k < (w.alloc o).heap.size by omega) hn).trans (Below.heap_alloc w o k hk)⟩
theorem Turned.at_alloc {w : World} {b : Nat} {r : Rd} (h : r.At w b) (o : Obj) (n : Nat) : Turned w ((w.alloc o).drewN n) b r := ((Turned.refl h).alloc o).drewN n
set_option maxHeartbeats 4000000 in
set_option maxRecDepth 100000 in
theorem next_int (r : Rd) (w : World) (b : Nat) (h : r.At w b) (k : Nat) (hk : r.item = (k : Int)) (hk1 : k < r.plan.size) (hk2 : r.plan.size ≤ 140737488355328) (hc : r.plan[k]'hk1 = 105) :
    Calls Try.prog 40 #[.pointer (some ⟨b, 0, none⟩)] w fun e w' => e = .returned (.tuple #[.agg #[.bool true, .int .u64 r.num, .string ⟨#[]⟩], .bool true]) ∧ Turned w w' b r.next := by
  have H := Aside0.mk h
  obtain ⟨taken, code, place, shut, plan, most, item, start, state, num, need, v⟩ := r
  simp only at hk hk1 hk2 hc
  subst hk
  have hlt := h.lt
  have hlt1 : b < w.heap.size + 1 := by omega
  have hne : (w.heap.size = b) = False := eq_false (by omega)
  have hne' : (b = w.heap.size) = False := eq_false (by omega)
  have c4 := h.c4
  have c6 := h.c6
  have c8 := h.c8
  have c9 := h.c9
  have c10 := h.c10
  have c11 := h.c11
  have f8 := h.fro 8
  have f10 := h.fro 10
  simp only at c4 c6 c8 c9 c10 c11
  have hcb : ((plan[k]'hk1).toNat : Int) = 105 := by rw [hc]; rfl
  clear hc
  clear h
  go_enter Try.func40, Try.ntmps40
  go_wp2
  go_quiet (fail)
  go_wp2_with (go_at_call 47; refine (done_calls ⟨taken, code, place, shut, plan, most, (k : Int), start, state, num, need, v⟩ _ b (alloc_at H.out _ _) true num ⟨#[]⟩ (by simp only; omega)).mono ?_; rintro e w1 ⟨rfl, hT⟩; have HT := Aside0.mk (from_alloc hT); have HG := kept_block hT (show ((w.alloc (.cells #[.bool false, .int .u64 0, .string ⟨#[]⟩] 55)).drewN nq).heap[w.heap.size]? = some (.cells #[.bool false, .int .u64 0, .string ⟨#[]⟩] 55 (0, 0)) from heap_alloc_new w _) (by omega); have d0 := cell3 HG 0; have d1 := cell3 HG 1; have d2 := cell3 HG 2; have e0 := fro3 HG 0; have e1 := fro3 HG 1; have e2 := fro3 HG 2; replace HG := Aside0.mk HG; clear hT)
  refine bodyPost_ret (results_ct rfl _ _ w.heap.size 55 _ (0, 0) _ rfl (set3 HG.out) Try.underlying55 rfl rfl) rfl ⟨rfl, ?_⟩
  exact (((HT.out).other (Nat.le_refl _) hlt _ _).other (Nat.le_refl _) hlt _ _).other (Nat.le_refl _) hlt _ _
set_option maxHeartbeats 4000000 in
set_option maxRecDepth 100000 in
theorem next_head (r : Rd) (w : World) (b : Nat) (h : r.At w b) (k : Nat) (hk : r.item = (k : Int)) (hk1 : k < r.plan.size) (hk2 : r.plan.size ≤ 140737488355328) (hc : r.plan[k]'hk1 ≠ 105) (hs : r.state = 0) (hn : 0 < r.num ∧ r.num ≤ 9223372036854775807) :
    Calls Try.prog 40 #[.pointer (some ⟨b, 0, none⟩)] w fun e w' => e = .returned (.tuple #[.agg #[.bool false, .int .u64 0, .string ⟨#[]⟩], .bool false]) ∧ Turned w w' b { r with state := 1, need := r.num } := by
  have H := Aside0.mk h
  obtain ⟨taken, code, place, shut, plan, most, item, start, state, num, need, v⟩ := r
  simp only at hk hk1 hk2 hc hs hn
  subst hk
  have hlt := h.lt
  have hlt1 : b < w.heap.size + 1 := by omega
  have hne : (w.heap.size = b) = False := eq_false (by omega)
  have hne' : (b = w.heap.size) = False := eq_false (by omega)
  have c4 := h.c4
  have c6 := h.c6
  have c8 := h.c8
  have c9 := h.c9
  have c10 := h.c10
  have c11 := h.c11
  have f8 := h.fro 8
  have f10 := h.fro 10
  simp only at c4 c6 c8 c9 c10 c11
  have hcb : (((plan[k]'hk1).toNat : Int) == 105) = false := by rw [beq_eq_false_iff_ne]; intro e; exact hc ((byte_eq_iff _ 105).1 e)
  clear hc
  have hw : wrap64 num = num := w64 (by omega) (by omega)
  subst hs
  have hn0 : decide (0 < num) = true := decide_eq_true hn.1
  clear h
  go_enter Try.func40, Try.ntmps40
  go_wp2
  go_quiet (fail)
  go_wp2
  refine bodyPost_ret (results_ct rfl _ _ w.heap.size 55 #[.bool false, .int .u64 0, .string ⟨#[]⟩] (0, 0) _ rfl (set3 (keep_set (keep_set (heap_alloc_new w (.cells #[.bool false, .int .u64 0, .string ⟨#[]⟩] 55)) (by omega)) (by omega))) Try.underlying55 rfl rfl) rfl ⟨rfl, ?_⟩
  exact (((((Turned.at_alloc H.out _ nq).set 8 _ (r' := ⟨taken, code, place, shut, plan, most, (k : Int), start, 1, num, need, v⟩) rfl).set 10 _ (r' := ⟨taken, code, place, shut, plan, most, (k : Int), start, 1, num, num, v⟩) rfl).other (Nat.le_refl _) hlt _ _).other (Nat.le_refl _) hlt _ _).other (Nat.le_refl _) hlt _ _
set_option maxHeartbeats 4000000 in
set_option maxRecDepth 100000 in
theorem next_pad (r : Rd) (w : World) (b : Nat) (h : r.At w b) (k : Nat) (hk : r.item = (k : Int)) (hk1 : k < r.plan.size) (hk2 : r.plan.size ≤ 140737488355328) (hc : r.plan[k]'hk1 ≠ 105) (hs : r.state = 1) (hn : 0 < r.num ∧ r.num ≤ 9223372036854775807) (hz : r.num % 8 ≠ 0) :
    Calls Try.prog 40 #[.pointer (some ⟨b, 0, none⟩)] w fun e w' => e = .returned (.tuple #[.agg #[.bool false, .int .u64 0, .string ⟨#[]⟩], .bool false]) ∧ Turned w w' b { r with state := 2, need := 8 - r.num % 8 } := by
  have H := Aside0.mk h
  obtain ⟨taken, code, place, shut, plan, most, item, start, state, num, need, v⟩ := r
  simp only at hk hk1 hk2 hc hs hn hz
  subst hk
  have hlt := h.lt
  have hlt1 : b < w.heap.size + 1 := by omega
  have hne : (w.heap.size = b) = False := eq_false (by omega)
  have hne' : (b = w.heap.size) = False := eq_false (by omega)
  have c4 := h.c4
  have c6 := h.c6
  have c8 := h.c8
  have c9 := h.c9
  have c10 := h.c10
  have c11 := h.c11
  have f8 := h.fro 8
  have f10 := h.fro 10
  simp only at c4 c6 c8 c9 c10 c11
  have hcb : (((plan[k]'hk1).toNat : Int) == 105) = false := by rw [beq_eq_false_iff_ne]; intro e; exact hc ((byte_eq_iff _ 105).1 e)
  clear hc
  have hw : wrap64 num = num := w64 (by omega) (by omega)
  subst hs
  have hr : ((num % 8 : Int) != 0) = true := bne_iff_ne.2 hz
  have hn0 : 0 ≤ num := by omega
  clear h
  go_enter Try.func40, Try.ntmps40
  go_wp2
  go_quiet (fail)
  go_wp2
  refine bodyPost_ret (results_ct rfl _ _ w.heap.size 55 #[.bool false, .int .u64 0, .string ⟨#[]⟩] (0, 0) _ rfl (set3 (keep_set (keep_set (heap_alloc_new w (.cells #[.bool false, .int .u64 0, .string ⟨#[]⟩] 55)) (by omega)) (by omega))) Try.underlying55 rfl rfl) rfl ⟨rfl, ?_⟩
  exact (((((Turned.at_alloc H.out _ nq).set 8 _ (r' := ⟨taken, code, place, shut, plan, most, (k : Int), start, 2, num, need, v⟩) rfl).set 10 _ (r' := ⟨taken, code, place, shut, plan, most, (k : Int), start, 2, num, 8 - num % 8, v⟩) rfl).other (Nat.le_refl _) hlt _ _).other (Nat.le_refl _) hlt _ _).other (Nat.le_refl _) hlt _ _
set_option maxHeartbeats 4000000 in
set_option maxRecDepth 100000 in
theorem next_text (r : Rd) (w : World) (b : Nat) (h : r.At w b) (k : Nat) (hk : r.item = (k : Int)) (hk1 : k < r.plan.size) (hk2 : r.plan.size ≤ 140737488355328) (hc : r.plan[k]'hk1 ≠ 105) (hn : 0 ≤ r.num ∧ r.num ≤ 9223372036854775807) (hs : (r.state = 0 ∧ r.num = 0) ∨ (r.state = 1 ∧ r.num % 8 = 0) ∨ r.state = 2) (base : Nat) (ok : Nat → Prop) (xs : List Int) (HO : Kd.R (Kd.int .u8) 5 w base ok r.v xs) :
    Calls Try.prog 40 #[.pointer (some ⟨b, 0, none⟩)] w fun e w' => e = .returned (.tuple #[.agg #[.bool false, .int .u64 0, .string (strOfNums xs)], .bool true]) ∧ Turned w w' b r.next := by
  have H := Aside0.mk h
  obtain ⟨taken, code, place, shut, plan, most, item, start, state, num, need, v⟩ := r
  simp only at hk hk1 hk2 hc hn hs HO
  subst hk
  have hlt := h.lt
  have hlt1 : b < w.heap.size + 1 := by omega
  have hne : (w.heap.size = b) = False := eq_false (by omega)
  have hne' : (b = w.heap.size) = False := eq_false (by omega)
  have c4 := h.c4
  have c6 := h.c6
  have c8 := h.c8
  have c9 := h.c9
  have c10 := h.c10
  have c11 := h.c11
  have f8 := h.fro 8
  have f10 := h.fro 10
  simp only at c4 c6 c8 c9 c10 c11
  have hcb : (((plan[k]'hk1).toNat : Int) == 105) = false := by rw [beq_eq_false_iff_ne]; intro e; exact hc ((byte_eq_iff _ 105).1 e)
  clear hc
  have hw : wrap64 num = num := w64 (by omega) (by omega)
  have hcv : ∀ (o : Obj) (n : Nat), (convert 48 9 v).run Try.prog ((w.alloc o).drewN n) = .ok (.string (strOfNums xs)) ((w.alloc o).drewN n) := fun o n => own_string (P := Try.prog) Try.underlying48 Try.underlying5 Try.underlying9 (Kd.own_of_R (Kd.R_drewN (Kd.R_alloc HO o) n))
  have hn0 : 0 ≤ num := hn.1
  replace HO := Aside0.mk HO
  clear h
  rcases hs with ⟨rfl, rfl⟩ | ⟨rfl, hz⟩ | rfl
  case' inr.inl => have hr : ((num % 8 : Int) != 0) = false := by rw [hz]; rfl
  all_goals
    go_enter Try.func40, Try.ntmps40
    go_wp2
    go_quiet (fail)
    go_wp2_with (go_at_call 47; refine (done_calls ⟨taken, code, place, shut, plan, most, (k : Int), start, _, _, need, v⟩ _ b (alloc_at H.out _ _) false 0 (strOfNums xs) (by simp only; omega)).mono ?_; rintro e w1 ⟨rfl, hT⟩; have HT := Aside0.mk (from_alloc hT); have HG := kept_block hT (show ((w.alloc (.cells #[.bool false, .int .u64 0, .string ⟨#[]⟩] 55)).drewN nq).heap[w.heap.size]? = some (.cells #[.bool false, .int .u64 0, .string ⟨#[]⟩] 55 (0, 0)) from heap_alloc_new w _) (by omega); have d0 := cell3 HG 0; have d1 := cell3 HG 1; have d2 := cell3 HG 2; have e0 := fro3 HG 0; have e1 := fro3 HG 1; have e2 := fro3 HG 2; replace HG := Aside0.mk HG; clear hT)
    refine bodyPost_ret (results_ct rfl _ _ w.heap.size 55 _ (0, 0) _ rfl (set3 HG.out) Try.underlying55 rfl rfl) rfl ⟨rfl, ?_⟩
    exact (((HT.out).other (Nat.le_refl _) hlt _ _).other (Nat.le_refl _) hlt _ _).other (Nat.le_refl _) hlt _ _
end Go.Proofs.Ytnilogameaaooaa.Rdr
