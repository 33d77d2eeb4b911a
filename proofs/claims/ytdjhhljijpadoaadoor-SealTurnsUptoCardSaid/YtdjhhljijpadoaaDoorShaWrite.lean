/- SHA-256: WriteText. -/
import Derived.Test.YtdjhhljijpadoaaDoorShaTook
import Derived.Lib.BufferWrite
namespace Go.Proofs.YtdjhhljijpadoaaDoor.Sha
open Go.RowKit Go.Proofs.YtdjhhljijpadoaaDoorW.PrintWords Go.Proofs.YtdjhhljijpadoaaDoorW.PrintLast Go.Proofs.YtdjhhljijpadoaaDoorW.PrintMore Go.Proofs.YtdjhhljijpadoaaDoor.Bytes
set_option linter.unusedVariables false
set_option linter.unusedSimpArgs false

/-- copy from a string, as much as fits. -/
theorem run_copy_string_min {P : Program} (w : World) (dT sT ty elem : TypeId) (g o dLen dCap m : Nat) (s : ByteArray) (cur : Array Value) (t : TypeId)
    (hu : P.underlying dT = some (.slice elem)) (hs : (P.info? elem).map (·.size) = some 1) (hg : w.heap[g]? = some (.cells cur t (0, 0))) (hm : Nat.min s.size dLen = m) (hfit : o + m ≤ cur.size) :
    (Builtin.copy_ #[dT, sT] ty #[.slice (some ⟨g, o, none⟩) dLen dCap, .string s]).run P w =
      .ok (goInt m) (w.setRow g (cur.toList.take o ++ (s.data.toList.take m).map bcell ++ cur.toList.drop (o + m)).toArray) := by
  have hms : m ≤ s.size := by rw [← hm]; exact Nat.min_le_left _ _
  have hlen : (Lib.byteCells (s.data.toList.take m)).length = m := by
    rw [Lib.byteCells_length, List.length_take]
    have : s.data.toList.length = s.size := (Lib.size_eq s).symm
    omega
  have hst := run_storeCells_at P g o t (Lib.byteCells (s.data.toList.take m)) 0 cur w hg (by rw [hlen]; simpa using hfit) (Lib.byteCells_one _)
  have htk : List.take m (List.map (fun b : UInt8 => Value.int IntKind.u8 (b.toNat : Int)) s.data.toList) = Lib.byteCells (s.data.toList.take m) := by
    rw [← List.map_take]
    rfl
  rw [hlen] at hst
  simp only [Nat.add_zero] at hst
  cases hq : P.info? elem with
  | none => simp [hq] at hs
  | some i =>
    simp [Builtin.copy_, run_underlying hu, Builtin.lenOf, Builtin.firstCells, sizeOf, typeInfo, hq, hm]
    rw [htk, hst]
    have hbc : Lib.byteCells (List.take m s.data.toList) = List.take m (List.map bcell s.data.toList) := by
      rw [← List.map_take]
      rfl
    rw [hbc]
    simp [Result.andThen]
/-- What has been written. -/
def Sd.Holds (s : Sd) (l : List UInt8) : Prop := ∃ a r, l = a ++ r ∧ a.length % 64 = 0 ∧ r.length < 64 ∧ s.h = blocks H0 a ∧ s.n = l.length ∧ s.used = r.length ∧ s.buf.length = 64 ∧ s.buf.take r.length = r
theorem holds_new : Sd.Holds ⟨0, H0, List.replicate 64 0, 0⟩ [] := ⟨[], [], rfl, rfl, by decide, (blocks_few _ _ (by decide)).symm, rfl, rfl, rfl, rfl⟩
/-- Bytes into the buffer. -/
def Sd.put (s : Sd) (bs : List UInt8) : Sd := { s with buf := s.buf.take s.used ++ bs ++ s.buf.drop (s.used + bs.length) }
theorem put_len (s : Sd) (bs : List UInt8) (h : s.buf.length = 64) (hu : s.used + bs.length ≤ 64) : (s.put bs).buf.length = 64 := by
  simp [Sd.put, h]
  omega
theorem holds_put {s : Sd} {l bs : List UInt8} (h : s.Holds l) (hu : s.used + bs.length ≤ 64) : ((s.put bs).took bs.length).Holds (l ++ bs) := by
  obtain ⟨a, r, rfl, ha, hr, hh, hn, hus, hb, ht⟩ := h
  have hb2 : (s.put bs).buf = r ++ bs ++ s.buf.drop (r.length + bs.length) := by
    unfold Sd.put
    rw [hus, ht]
  unfold Sd.took
  show Sd.Holds (if s.used + bs.length = 64 then _ else _) _
  split
  · rename_i h64
    have hd : s.buf.drop (r.length + bs.length) = [] := List.drop_eq_nil_of_le (by omega)
    rw [hd, List.append_nil] at hb2
    have hl : (r ++ bs).length = 64 := by rw [List.length_append]; omega
    refine ⟨a ++ (r ++ bs), [], by simp, by rw [List.length_append, hl]; omega, by decide, ?_, ?_, rfl, by rw [hb2]; exact hl, by simp⟩
    · show block s.h (s.put bs).buf = _
      rw [hb2, hh, blocks_end _ _ _ ha hl]
    · show s.n + bs.length = _
      rw [hn]; simp; omega
  · rename_i h64
    refine ⟨a, r ++ bs, by simp, ha, by rw [List.length_append]; omega, hh, ?_, ?_, put_len s bs hb hu, ?_⟩
    · show s.n + bs.length = _
      rw [hn]; simp; omega
    · show s.used + bs.length = _
      rw [hus, List.length_append]
    · rw [hb2, List.take_left']
      rfl
theorem Turn.put {w w' : World} {b : Nat} {s : Sd} (h : Turn w w' b s) (bs : List UInt8) (hu : s.used + bs.length ≤ 64) : Turn w (w'.setRow b (s.cells.take (9 + s.used) ++ bs.map bcell ++ s.cells.drop (9 + s.used + bs.length)).toArray) b (s.put bs) := by
  refine h.row _ ?_ (put_len s bs h.1.len hu)
  have hl := h.1.len
  have e1 : s.cells = (.int .i64 (s.n : Int) :: s.h.cells.toList) ++ (s.buf.map bcell ++ [.int .i64 (s.used : Int)]) := rfl
  have e9 : (Value.int .i64 (s.n : Int) :: s.h.cells.toList).length = 9 := rfl
  rw [e1, List.take_append, List.drop_append, e9, List.take_of_length_le (by rw [e9]; omega), List.drop_eq_nil_of_le (by rw [e9]; omega)]
  rw [show 9 + s.used - 9 = s.used from by omega, show 9 + s.used + bs.length - 9 = s.used + bs.length from by omega]
  rw [List.take_append_of_le_length (by rw [List.length_map, hl]; omega), List.drop_append_of_le_length (by rw [List.length_map, hl]; omega)]
  unfold Sd.put Sd.cells
  simp [List.map_append, List.map_take, List.map_drop]
theorem wpList_copy_text {P : Program} {w : World} {ops : Array Oper} {rest : List Oper} {o : Oper} {a : Act} {Q : Exit → Act → World → Prop} (hgd : o.guard = none) (d s : Operand) (dT sT : TypeId)
    (ho : o.op = .call { callee := .builtin .copy, args := #[d, s], argTypes := #[dT, sT] }) (elem : TypeId) (hu : P.underlying dT = some (.slice elem)) (hsz : (P.info? elem).map (·.size) = some 1)
    (g off dLen dCap m : Nat) (t : ByteArray) (hd : a.eval d = .slice (some ⟨g, off, none⟩) dLen dCap) (hs : a.eval s = .string t)
    (cur : Array Value) (ty : TypeId) (hg : w.heap[g]? = some (.cells cur ty (0, 0))) (hm : Nat.min t.size dLen = m) (hfit : off + m ≤ cur.size)
    (h : wpList P ops Q rest (a.put o.dst (goInt m)) (w.setRow g (cur.toList.take off ++ (t.data.toList.take m).map bcell ++ cur.toList.drop (off + m)).toArray)) : wpList P ops Q (o :: rest) a w := by
  refine wpList_plain hgd fun K hK => ?_
  have hrun := run_copy_string_min (P := P) w dT sT o.type elem g off dLen dCap m t cur ty hu hsz hg hm hfit
  unfold Oper.wp execOp
  simp only [ho, resolve, invoke, builtin, Sem.run_bind, Sem.run_pure, Result.andThen_ok, List.map_toArray, List.map_cons, List.map_nil, hd, hs, hrun]
  exact hK _ _ h
set_option maxRecDepth 100000 in
set_option maxHeartbeats 4000000 in
theorem writeText_calls (s : Sd) (l : List UInt8) (b : Nat) (t : ByteArray) (w : World) (hs : s.At w b) (hl : s.Holds l) (hG : Glob w) (hb : 2 ≤ b) (hn : l.length + t.size < 4611686018427387904) : Calls Tryd.prog 22 #[.pointer (some ⟨b, 0, none⟩), .string t] w fun e w' => e = .returned (.tuple #[]) ∧ ∃ s', Turn w w' b s' ∧ s'.Holds (l ++ t.data.toList) := by
  have HG := Aside0.mk hG
  have HB2 := Aside0.mk hb
  have HS := Aside0.mk (Turn.start hs)
  have HL := Aside0.mk hl
  have HT := Aside0.mk (fun s k w h1 h2 h3 h4 => took_calls s b k w h1 h2 hb h3 h4)
  clear hs hG hl
  go_enter Tryd.func22, Tryd.ntmps22
  go_wp2
  go_loopg [1] t.size (fun g v1 wx => ∃ (tt : ByteArray) (lx : List UInt8) (sx : Sd), tt.size ≤ g ∧ v1 = .string tt ∧ Aside0 (Turn w wx b sx) ∧ Aside0 (sx.Holds lx) ∧ Aside0 (lx ++ tt.data.toList = l ++ t.data.toList) ∧ lx.length + tt.size < 4611686018427387904)
  case atStart => exact ⟨t, l, s, Nat.le_refl _, rfl, HS, HL, ⟨rfl⟩, hn⟩
  case round =>
    clear HS HL
    obtain ⟨tt, lx, sx, hg, rfl, HS, HL, HE, hnn⟩ := hrel
    by_cases h0 : tt.size = 0
    · have d1 : decide (0 < (tt.size : Int)) = false := decide_eq_false (by omega)
      have d2 : decide (0 < tt.size) = false := decide_eq_false (by omega)
      go_wp2
      go_end0
      have : tt.data.toList = [] := List.eq_nil_of_length_eq_zero h0
      have he := HE.out
      rw [this, List.append_nil] at he
      rw [← he]
      exact ⟨rfl, sx, HS.out, HL.out⟩
    · have d1 : decide (0 < (tt.size : Int)) = true := decide_eq_true (by omega)
      have d2 : decide (0 < tt.size) = true := decide_eq_true (by omega)
      have husd : sx.used < 64 := by
        obtain ⟨a, r, _, _, hr, _, _, hu, _⟩ := HL.out
        omega
      have hsn : sx.n = lx.length := by
        obtain ⟨a, r, _, _, hr, _, hn, hu, _⟩ := HL.out
        exact hn
      have p1 : (0 ≤ (sx.used : Int)) = True := eq_true (by omega)
      have p2 : ((sx.used : Int) ≤ 64) = True := eq_true (by omega)
      obtain ⟨m, hm⟩ : ∃ m, Nat.min tt.size (64 - sx.used) = m := ⟨_, rfl⟩
      have hm1 : m ≤ tt.size := by rw [← hm]; exact Nat.min_le_left _ _
      have hm2 : m ≤ 64 - sx.used := by rw [← hm]; exact Nat.min_le_right _ _
      have hm3 : 0 < m := by rw [← hm]; exact Nat.lt_min.2 ⟨by omega, by omega⟩
      have p3 : (0 ≤ (m : Int)) = True := eq_true (by omega)
      have p4 : ((m : Int) ≤ (tt.size : Int)) = True := eq_true (by omega)
      go_wp2
      refine wp_region_still_tail 9 (by kernel_rfl) (by kernel_rfl) ?_
      change wpStill _ _ (World.drew wr) (fun a' => wpList _ _ _ _ a' (World.drew wr)) _ _
      have HS2 := Aside0.mk (HS.out.keep (below_drew (Below.refl _ wr)))
      generalize World.drew wr = w2 at HS2 ⊢
      have y1 := HS2.out.1.use
      simp only [List.take_succ_cons, List.take_zero, List.drop_succ_cons, List.drop_zero]
      repeat still_step
      refine wpStill_nil ?_
      change wpList _ _ _ _ _ w2
      have hcl := sx.cells_len HS2.out.1.len
      have htl : (tt.data.toList.take m).length = m := by
        rw [List.length_take]
        have : tt.data.toList.length = tt.size := (Lib.size_eq tt).symm
        omega
      refine wpList_copy_text rfl (.tmp 15) (.tmp 16) 34 9 rfl 5 Tryd.underlying34 (by kernel_rfl) b (9 + sx.used) (64 - sx.used) (64 - sx.used) m tt (by first | rfl | (simp [Act.eval, Act.put] <;> omega)) rfl sx.cells.toArray _ HS2.out.1.lies hm (by rw [List.size_toArray, hcl]; omega) ?_
      have T3 := Aside0.mk (HS2.out.put (tt.data.toList.take m) (by rw [htl]; omega))
      rw [htl] at T3
      change wpList _ _ _ _ _ (w2.setRow b (List.take (9 + sx.used) sx.cells ++ List.map bcell (List.take m tt.data.toList) ++ List.drop (9 + sx.used + m) sx.cells).toArray)
      generalize w2.setRow b (List.take (9 + sx.used) sx.cells ++ List.map bcell (List.take m tt.data.toList) ++ List.drop (9 + sx.used + m) sx.cells).toArray = w3 at T3 ⊢
      have HC := Aside0.mk (HT.out (sx.put (tt.data.toList.take m)) m w3 T3.out.1 (HG.out.turn T3.out HB2.out) (show sx.used + m ≤ 64 by omega) (show sx.n + m < _ by omega))
      have HP := Aside0.mk (holds_put (bs := tt.data.toList.take m) HL.out (by rw [htl]; omega))
      rw [htl] at HP
      have HTL := Aside0.mk htl
      have hsz : ((m : Int)).toNat = m := Int.toNat_natCast m
      clear y1 HS HS2 hcl htl HL
      obtain ⟨k1, rfl⟩ : ∃ k1, gk = k1 + 1 := ⟨gk - 1, by omega⟩
      go_wp2_with (first | (go_at_call 32; ((with_reducible refine HC.out.mono ?_)); rintro e w4 ⟨rfl, hT4⟩; have HT4 := Aside0.mk (T3.out.trans hT4); clear hT4))
      go_roundg k1
      case measure => omega
      case rel =>
        have hx : (tt.extract m tt.size).data.toList = tt.data.toList.drop m := by
          have := bs_extract tt m tt.size
          have h2 : tt.data.toList.length = tt.size := (Lib.size_eq tt).symm
          rw [List.take_of_length_le (by show (tt.data.toList.drop m).length ≤ _; rw [List.length_drop, h2]; omega)] at this
          exact this
        have hs : (tt.extract m tt.size).size = tt.size - m := by
          rw [Lib.size_eq, hx, List.length_drop, ← Lib.size_eq]
        refine ⟨tt.extract m tt.size, lx ++ tt.data.toList.take m, _, by rw [hs]; omega, rfl, HT4, HP, ⟨?_⟩, ?_⟩
        · rw [hx, List.append_assoc, List.take_append_drop]
          exact HE.out
        · rw [hs, List.length_append, HTL.out]
          omega
end Go.Proofs.YtdjhhljijpadoaaDoor.Sha
