/- Texts of this claim, put together: Q52, ScanRefs, ScanObj, ExtScSw, ExtScPl, QB, ScanTwo, ScanLists, Q58, Q59, Q56, ScanFoundRef, ExtScKp, Opens, Upto. -/
import Derived.Test.YtbllmpfdhcbkpaaQ0
import Derived.Test.YtbllmpfdhcbkpaaCScanKeeps1
import Derived.Laws.CopyRow
import Derived.Laws.CopyOwn
import Derived.Lib.AppendStr
import Derived.Test.YtbllmpfdhcbkpaaWMore
import Derived.Test.YtbllmpfdhcbkpaaRows
import Derived.Test.YtbllmpfdhcbkpaaWWords
import Derived.Test.YtbllmpfdhcbkpaaWLast
import Derived.Deep.Slices
import Derived.ProofKit
import Derived.SizedLaws
import Derived.Test.YtbllmpfdhcbkpaaBytes
/- By a program of this session's: a plain Lean function for a Go function, and its contract. -/
namespace Go.Proofs.Ytbllmpfdhcbkpaa.Q
open Go.RowKit Go.Proofs.YtbllmpfdhcbkpaaW.PrintWords Go.Proofs.YtbllmpfdhcbkpaaW.PrintLast Go.Proofs.YtbllmpfdhcbkpaaW.PrintMore
attribute [local go_sem] max2_int min2_int max_two min_two max_three min_three max_four min_four Go.Proofs.Ytbllmpfdhcbkpaa.Ord.str_leq Go.Proofs.Ytbllmpfdhcbkpaa.Ord.str_gtr Go.Proofs.Ytbllmpfdhcbkpaa.Ord.str_geq   -- for this text's walks alone
set_option linter.unusedVariables false
set_option linter.unusedSimpArgs false

/-! ### depotlaw14_ints: function 12 -/
def depotlaw14_ints.l0 : Nat → List Int → List Int → Int → Int → Option (Bool)
  | 0, _, _, _, _ => none
  | k + 1, x0, x1, x12, x13 => if x13 < x12 then (if 0 ≤ x13 then (if x13 < (x0.length : Int) then (if x13 < (x1.length : Int) then (if (rd x0 x13) = (rd x1 x13) then (depotlaw14_ints.l0 k x0 x1 x12 (wrap64 (x13 + 1))) else (some false)) else (none)) else (none)) else (none)) else (some true)
def depotlaw14_ints.f (k : Nat) (l0 : List Int) (l1 : List Int) : Option (Bool) := if (l0.length : Int) = (l1.length : Int) then (depotlaw14_ints.l0 k l0 l1 (l0.length : Int) 0) else (some false)
theorem depotlaw14_ints.mono_l : ∀ k, (∀ y0 y1 y2 y3, LeO (depotlaw14_ints.l0 k y0 y1 y2 y3) (depotlaw14_ints.l0 (k + 1) y0 y1 y2 y3))
  | 0 => fun _ _ _ _ r h => by simp [depotlaw14_ints.l0] at h
  | k + 1 => by
    have ih0 := depotlaw14_ints.mono_l k
    · intro y0 y1 y2 y3
      unfold depotlaw14_ints.l0
      repeat' first
      | (with_reducible exact ih0 _ _ _ _)
      | (with_reducible exact LeO.refl _)
      | (with_reducible exact LeO.none _)
      | (with_reducible refine LeO.ite ?_ ?_)
      | (with_reducible refine LeO.bind ?_ (fun _ => ?_))
      | exact ih0 _ _ _ _
      | exact LeO.none _
      | refine LeO.ite ?_ ?_
      | refine LeO.bind ?_ (fun _ => ?_)
theorem depotlaw14_ints.mono : ∀ a0 a1 k, LeO (depotlaw14_ints.f k a0 a1) (depotlaw14_ints.f (k + 1) a0 a1) := by
  intro a0 a1 k
  have ih0 := depotlaw14_ints.mono_l k
  unfold depotlaw14_ints.f
  repeat' first
      | (with_reducible exact ih0 _ _ _ _)
      | (with_reducible exact LeO.refl _)
      | (with_reducible exact LeO.none _)
      | (with_reducible refine LeO.ite ?_ ?_)
      | (with_reducible refine LeO.bind ?_ (fun _ => ?_))
      | exact ih0 _ _ _ _
      | exact LeO.none _
      | refine LeO.ite ?_ ?_
      | refine LeO.bind ?_ (fun _ => ?_)
set_option maxHeartbeats 8000000 in
set_option maxRecDepth 100000 in
theorem depotlaw14_ints.calls (k : Nat) (A0 : Option Addr) (c0 : Nat) (l0 : List Int) (A1 : Option Addr) (c1 : Nat) (l1 : List Int) (r : Bool) (w : World) (hr0 : Kd.C (Kd.int .i64) w A0 l0.length l0) (hc0 : l0.length ≤ c0) (hr1 : Kd.C (Kd.int .i64) w A1 l1.length l1) (hc1 : l1.length ≤ c1) (h : depotlaw14_ints.f k l0 l1 = some r) :
    Calls Try.prog 12 #[.slice A0 l0.length c0, .slice A1 l1.length c1] w fun e w' => e = .returned (.bool r) ∧ Drawn0 w w' := by
  have HR0 := Aside0.mk hr0
  have HC0 := Aside0.mk hc0
  clear hr0 hc0
  have HR1 := Aside0.mk hr1
  have HC1 := Aside0.mk hc1
  clear hr1 hc1
  have H : (if (l0.length : Int) = (l1.length : Int) then (depotlaw14_ints.l0 k l0 l1 (l0.length : Int) 0) else (some false)) = some r := h
  clear h
  by_cases c3 : (l0.length : Int) = (l1.length : Int)
  · rw [if_pos c3] at H
    have c3b0 : ((l0.length : Int) == (l1.length : Int)) = true := beq_iff_eq.mpr c3
    have c3b1 : ((l0.length : Int) != (l1.length : Int)) = false := bne_eq_false_iff_eq.mpr c3
    have c3b2 : (l0.length == l1.length) = true := by first | simpa using c3 | (simp at c3 ⊢; omega)
    clear c3
    have H' := Aside0.mk H
    clear H
    go_enter Try.func12, Try.ntmps12
    go_wp2
    repeat (go_quiet (fail); try go_wp2)
    go_loopg [13] k (fun kq v13 w' => ∃ (x13_1 : Int), v13 = .int .i64 x13_1 ∧ Aside0 (depotlaw14_ints.l0 kq l0 l1 (l0.length : Int) x13_1 = some r) ∧ Aside0 (kq ≤ k) ∧ Drawn0 w w')
    case atStart => exact ⟨(0), (by first | rfl | (simp; done) | (simp [*]; done)), H', ⟨Nat.le_refl _⟩, by repeat (first | exact Drawn0.refl _ | apply Drawn0.step)⟩
    case round =>
      clear H'
      try clear c1
      try clear p2
      try clear c3
      try clear c3b0
      try clear c3b1
      try clear c3b2
      obtain ⟨x13_1, rfl, HA, HK1, ⟨m1, rfl⟩⟩ := hrel
      cases gk with
      | zero => exact absurd HA.out (by simp [depotlaw14_ints.l0])
      | succ k1 =>
        have H := HA.out
        clear HA
        simp only [depotlaw14_ints.l0] at H
        by_cases c4 : x13_1 < (l0.length : Int)
        · rw [if_pos c4] at H
          have c4b0 : decide (x13_1 < (l0.length : Int)) = true := decide_eq_true c4
          clear c4
          by_cases c5 : 0 ≤ x13_1
          · rw [if_pos c5] at H
            have c5b0 : decide (0 ≤ x13_1) = true := decide_eq_true c5
            clear c5
            by_cases c6 : x13_1 < (l0.length : Int)
            · rw [if_pos c6] at H
              have c6b0 : decide (x13_1 < (l0.length : Int)) = true := decide_eq_true c6
              clear c6
              by_cases c7 : x13_1 < (l1.length : Int)
              · rw [if_pos c7] at H
                have c7b0 : decide (x13_1 < (l1.length : Int)) = true := decide_eq_true c7
                clear c7
                by_cases c8 : (rd l0 x13_1) = (rd l1 x13_1)
                · rw [if_pos c8] at H
                  have c8b0 : ((rd l0 x13_1) == (rd l1 x13_1)) = true := beq_iff_eq.mpr c8
                  have c8b1 : ((rd l0 x13_1) != (rd l1 x13_1)) = false := bne_eq_false_iff_eq.mpr c8
                  clear c8
                  have H' := Aside0.mk H
                  clear H
                  have p253 : 0 ≤ (x13_1 : Int) := of_decide_eq_true (by first | (with_reducible assumption) | assumption)
                  have q253 : x13_1 < (l0.length : Int) := of_decide_eq_true (by first | (with_reducible assumption) | assumption)
                  obtain ⟨ad253, e253, hx253_0⟩ := Kd.at_int HR0.out x13_1 p253 q253
                  cases e253
                  replace p253 := eq_true p253
                  replace q253 := eq_true q253
                  have p254 : 0 ≤ (x13_1 : Int) := of_decide_eq_true (by first | (with_reducible assumption) | assumption)
                  have q254 : x13_1 < (l1.length : Int) := of_decide_eq_true (by first | (with_reducible assumption) | assumption)
                  obtain ⟨ad254, e254, hx254_0⟩ := Kd.at_int HR1.out x13_1 p254 q254
                  cases e254
                  replace p254 := eq_true p254
                  replace q254 := eq_true q254
                  go_wp2
                  repeat (go_quiet (fail); try go_wp2)
                  go_roundg k1
                  case measure => have := HK1.out; omega
                  case rel => exact ⟨(wrap64 (x13_1 + 1)), (by first | rfl | (simp; done) | (simp [*]; done)), H', ⟨by have := HK1.out; omega⟩, by repeat (first | exact Drawn0.refl _ | apply Drawn0.step)⟩
                · rw [if_neg c8] at H
                  have c8b0 : ((rd l0 x13_1) == (rd l1 x13_1)) = false := beq_eq_false_iff_ne.mpr c8
                  have c8b1 : ((rd l0 x13_1) != (rd l1 x13_1)) = true := bne_iff_ne.mpr c8
                  obtain rfl := Option.some.inj H
                  have p253 : 0 ≤ (x13_1 : Int) := of_decide_eq_true (by first | (with_reducible assumption) | assumption)
                  have q253 : x13_1 < (l0.length : Int) := of_decide_eq_true (by first | (with_reducible assumption) | assumption)
                  obtain ⟨ad253, e253, hx253_0⟩ := Kd.at_int HR0.out x13_1 p253 q253
                  cases e253
                  replace p253 := eq_true p253
                  replace q253 := eq_true q253
                  have p254 : 0 ≤ (x13_1 : Int) := of_decide_eq_true (by first | (with_reducible assumption) | assumption)
                  have q254 : x13_1 < (l1.length : Int) := of_decide_eq_true (by first | (with_reducible assumption) | assumption)
                  obtain ⟨ad254, e254, hx254_0⟩ := Kd.at_int HR1.out x13_1 p254 q254
                  cases e254
                  replace p254 := eq_true p254
                  replace q254 := eq_true q254
                  go_wp2
                  repeat (go_quiet (fail); try go_wp2)
                  go_ret
                  exact ⟨by first | rfl | (simp; done) | (simp [*]; done), by repeat (first | exact Drawn0.refl _ | apply Drawn0.step)⟩
              · rw [if_neg c7] at H
                exact absurd H (by simp)
            · rw [if_neg c6] at H
              exact absurd H (by simp)
          · rw [if_neg c5] at H
            exact absurd H (by simp)
        · rw [if_neg c4] at H
          have c4b0 : decide (x13_1 < (l0.length : Int)) = false := decide_eq_false c4
          clear c4
          obtain rfl := Option.some.inj H
          go_wp2
          repeat (go_quiet (fail); try go_wp2)
          go_ret
          exact ⟨by first | rfl | (simp; done) | (simp [*]; done), by repeat (first | exact Drawn0.refl _ | apply Drawn0.step)⟩
  · rw [if_neg c3] at H
    have c3b0 : ((l0.length : Int) == (l1.length : Int)) = false := beq_eq_false_iff_ne.mpr c3
    have c3b1 : ((l0.length : Int) != (l1.length : Int)) = true := bne_iff_ne.mpr c3
    have c3b2 : (l0.length == l1.length) = false := by first | simpa using c3 | (simp at c3 ⊢; omega)
    obtain rfl := Option.some.inj H
    go_enter Try.func12, Try.ntmps12
    go_wp2
    repeat (go_quiet (fail); try go_wp2)
    go_ret
    exact ⟨by first | rfl | (simp; done) | (simp [*]; done), by repeat (first | exact Drawn0.refl _ | apply Drawn0.step)⟩

end Go.Proofs.Ytbllmpfdhcbkpaa.Q
/- The document's Wanted, At and Rewrite; ints: in plain Lean. -/
namespace Go.Proofs.Ytbllmpfdhcbkpaa.Scan
open Go.RowKit Go.Proofs.Ytbllmpfdhcbkpaa.Q Go.Proofs.Ytbllmpfdhcbkpaa.SpathPure Go.Proofs.Ytbllmpfdhcbkpaa.Evs Go.Proofs.YtbllmpfdhcbkpaaW.PrintWords Go.Proofs.YtbllmpfdhcbkpaaW.PrintLast Go.Proofs.YtbllmpfdhcbkpaaW.PrintMore Go.Proofs.Ytbllmpfdhcbkpaa.Bytes
set_option linter.unusedVariables false
set_option linter.unusedSimpArgs false
theorem ref_wanted_l0 (hs : List ByteArray) (hl : hs.length ≤ 1099511627776) (d : Nat) : ∀ i, i + d = hs.length → Ev (fun k => depotref14_Wanted.l0 k hs (i : Int)) (wantedL (hs.drop i)) := by
  induction d with
  | zero =>
    intro i hi
    refine succ ?_
    simp only [depotref14_Wanted.l0]
    rw [List.drop_of_length_le (by omega)]
    exact neg (by omega) (Ev.now _)
  | succ d ih =>
    intro i hi
    have hlt : i < hs.length := by omega
    refine succ ?_
    simp only [depotref14_Wanted.l0]
    refine pos (by omega) (pos (by omega) ?_)
    have hd : hs.drop i = hs[i] :: hs.drop (i + 1) := List.drop_eq_getElem_cons hlt
    have hr : rdOf ByteArray.empty hs (i : Int) = hs[i] := by rw [rd_nat, List.getD_eq_getElem?_getD, List.getElem?_eq_getElem hlt]; rfl
    rw [hr]
    refine Ev.bind (ref_hash _) ?_
    rw [hd, wantedL]
    by_cases hz : hashNo (bs hs[i]) = 0
    · rw [if_neg (fun h => h hz)]
      refine pos hz ?_
      rw [wr i (by omega)]
      exact ih (i + 1) (by omega)
    · rw [if_pos hz]
      exact neg hz (Ev.now _)
theorem ref_wanted (hs : List ByteArray) (hl : hs.length ≤ 1099511627776) : Ev (fun k => depotref14_Wanted.f k hs) (wantedL hs) := by
  unfold depotref14_Wanted.f
  have := ref_wanted_l0 hs hl hs.length 0 (by omega)
  rwa [List.drop_zero] at this
theorem wanted_two (f t : ByteArray) : wantedL [f, t] = wanted2 f t := by
  unfold wantedL wantedL wantedL wanted2
  split
  · rfl
  · split
    · rfl
    · next h => exact (Classical.not_not.1 h).symm
def nb (l : List UInt8) : List Int := l.map (fun b : UInt8 => (b.toNat : Int))
theorem str_nb (l : List UInt8) : strOfNums (nb l) = ⟨l.toArray⟩ := by
  unfold strOfNums nb
  rw [List.map_map]
  congr 2
  rw [List.map_congr_left (g := id) (fun x _ => by simp), List.map_id]
theorem ref_at (text f : ByteArray) (hf : (bs f).length = 32) (hs : text.size ≤ 4294967000) (i : Nat) (hi : i ≤ text.size) : depotref14_At.f text f (i : Int) = some (decide (((bs text).drop i).take 32 = bs f)) := by
  have hfs : f.size = 32 := by rw [size_bs]; exact hf
  have hw : wrap64 ((i : Int) + (f.size : Int)) = ((i + 32 : Nat) : Int) := by rw [hfs, w64 (by omega) (by omega)]; omega
  unfold depotref14_At.f
  rw [hw]
  by_cases h : i + 32 ≤ text.size
  · rw [if_pos (by omega), if_pos (by omega), if_pos (by omega)]
    congr 1
    rw [toList_bs, toList_bs, bs_extract, Int.toNat_natCast, Int.toNat_natCast, show i + 32 - i = 32 by omega, Bool.eq_iff_iff, beq_iff_eq, decide_eq_true_eq]
  · rw [if_neg (by omega)]
    congr 1
    refine (decide_eq_false (fun e => ?_)).symm
    have := win_length hf e
    rw [← size_bs] at this
    omega
theorem ref_rw_l0 (text f t : ByteArray) (hf : (bs f).length = 32) (ht : (bs t).length = 32) (hs : text.size ≤ 4294967000) : ∀ (n i : Nat) (out : List UInt8) (pl : List Nat), i + n = text.size → out.length ≤ i → pl.length ≤ i →
    Ev (fun k => depotref14_Rewrite.l0 k text f t (nb out) (zs pl) (i : Int)) (⟨(out ++ R (bs f) (bs t) ((bs text).drop i)).toArray⟩, zs (pl ++ Pl (bs f) ((bs text).drop i) i), 0) := by
  intro n
  induction n using Nat.strongRecOn with
  | _ n ih =>
    intro i out pl hi ho hp
    have hts : t.size = 32 := by rw [size_bs]; exact ht
    have hnb : (nb out).length = out.length := by unfold nb; rw [List.length_map]
    have hzl : (zs pl).length = pl.length := by unfold zs; rw [List.length_map]
    refine succ ?_
    simp only [depotref14_Rewrite.l0]
    by_cases hlt : i < text.size
    · refine pos (by omega) ?_
      refine call (ref_at text f hf hs i (by omega)) ?_
      have hlb : i < (bs text).length := by rw [← size_bs]; exact hlt
      have hd : (bs text).drop i = (bs text)[i] :: (bs text).drop (i + 1) := List.drop_eq_getElem_cons hlb
      by_cases e : ((bs text).drop i).take 32 = bs f
      · have hwl := win_length hf e
        rw [← size_bs] at hwl
        refine pos (decide_eq_true e) (pos (by rw [hnb, hts]; omega) (pos (by rw [hzl]; omega) ?_))
        have hw : wrap64 ((i : Int) + 32) = ((i + 32 : Nat) : Int) := by rw [w64 (by omega) (by omega)]; omega
        have e1 : nb out ++ bytesOf t = nb (out ++ bs t) := by
          unfold nb bs
          rw [List.map_append]
          rfl
        have e2 : zs pl ++ [(i : Int)] = zs (pl ++ [i]) := by
          unfold zs
          rw [List.map_append]
          rfl
        rw [hw, e1, e2]
        clear hw e1 e2
        refine same ?_ (ih (n - 32) (by omega) (i + 32) (out ++ bs t) (pl ++ [i]) (by omega) (by rw [List.length_append, ht]; omega) (by rw [List.length_append, List.length_singleton]; omega))
        rw [R_hit hf e, Pl_hit hf e, List.drop_drop, List.append_assoc, List.append_assoc]
        rfl
      · refine neg (by rw [decide_eq_true_eq]; exact e) (pos (by omega) (pos (by rw [hnb]; omega) ?_))
        have e1 : nb out ++ [bt text (i : Int)] = nb (out ++ [(bs text)[i]]) := by
          rw [bt_lt text i hlb]
          unfold nb
          rw [List.map_append]
          rfl
        rw [wr i (by omega), e1]
        clear e1
        refine same ?_ (ih (n - 1) (by omega) (i + 1) (out ++ [(bs text)[i]]) pl (by omega) (by rw [List.length_append, List.length_singleton]; omega) (by omega))
        rw [hd] at e ⊢
        rw [R_miss e, Pl_miss e, List.append_assoc]
        rfl
    · refine neg (by omega) ?_
      refine same ?_ (Ev.now _)
      rw [List.drop_of_length_le (by rw [← size_bs]; omega), R_nil, Pl_nil, List.append_nil, List.append_nil, str_nb]
theorem ref_rewrite (text f t : ByteArray) (hs : text.size ≤ 4294967000) : Ev (fun k => depotref14_Rewrite.f k text f t) (if wanted2 f t = 0 then (⟨(R (bs f) (bs t) (bs text)).toArray⟩, zs (Pl (bs f) (bs text) 0), 0) else (⟨#[]⟩, [], wanted2 f t)) := by
  unfold depotref14_Rewrite.f
  refine Ev.bind (ref_wanted [f, t] (by simp)) ?_
  rw [wanted_two]
  by_cases h : wanted2 f t = 0
  · obtain ⟨h1, h2⟩ := wanted_len h
    rw [if_pos h]
    refine pos h ?_
    have := ref_rw_l0 text f t h1 h2 hs text.size 0 [] [] (by omega) (Nat.le_refl _) (Nat.le_refl _)
    rw [List.drop_zero, List.nil_append, List.nil_append] at this
    exact this
  · rw [if_neg h]
    exact neg h (Ev.now _)
theorem ints_l0 (l : List Int) (hl : l.length ≤ 1099511627776) (d : Nat) : ∀ i, i + d = l.length → Ev (fun k => depotlaw14_ints.l0 k l l (l.length : Int) (i : Int)) true := by
  induction d with
  | zero =>
    intro i hi
    refine succ ?_
    simp only [depotlaw14_ints.l0]
    exact neg (by omega) (Ev.now _)
  | succ d ih =>
    intro i hi
    refine succ ?_
    simp only [depotlaw14_ints.l0]
    refine pos (by omega) (pos (by omega) (pos (by omega) (pos (by omega) (pos (by first | rfl | trivial) ?_))))
    rw [wr i (by omega)]
    exact ih (i + 1) (by omega)
theorem ints_same (l : List Int) (hl : l.length ≤ 1099511627776) : Ev (fun k => depotlaw14_ints.f k l l) true := by
  unfold depotlaw14_ints.f
  exact pos (by first | rfl | trivial) (ints_l0 l hl l.length 0 (by omega))
end Go.Proofs.Ytbllmpfdhcbkpaa.Scan
/- A Scanner and a Rewriter as one thing each: the text that came in, what was told. -/
namespace Go.Proofs.Ytbllmpfdhcbkpaa.Scan
open Go.Shelf Go.RowKit Go.Proofs.Ytbllmpfdhcbkpaa.Q Go.Proofs.Ytbllmpfdhcbkpaa.SpathPure Go.Proofs.Ytbllmpfdhcbkpaa.Rise Go.Proofs.YtbllmpfdhcbkpaaW.PrintWords Go.Proofs.YtbllmpfdhcbkpaaW.PrintLast Go.Proofs.YtbllmpfdhcbkpaaW.PrintMore Go.Proofs.Ytbllmpfdhcbkpaa.Bytes
set_option linter.unusedVariables false
set_option linter.unusedSimpArgs false
/-- A Scanner of these hashes that took S. -/
def Scn (W : World) (base b : Nat) (hashes : List ByteArray) (S : List UInt8) : Prop :=
  ∃ (bm n : Nat) (vt vs : Value) (D : DataW Unit) (Hs : List ByteArray) (seen : List Bool), ScM W base b bm n vt vs (keep S) S.length D seen ∧ Nw hashes hashes.length D Hs ∧ seen.length = Hs.length ∧ n ≤ hashes.length ∧ hashes.length ≤ 1048577 ∧
    ∀ (k : Nat) (h : ByteArray), Hs[k]? = some h → (seen[k]? = some true ↔ Occ S (bs h))
theorem Scn.less {W W2 : World} {base b : Nat} {hashes : List ByteArray} {S : List UInt8} (h : Scn W base b hashes S) (k : Below W.heap.size W W2) : Scn W2 base b hashes S := by
  obtain ⟨bm, n, vt, vs, D, Hs, seen, h1, r⟩ := h
  exact ⟨bm, n, vt, vs, D, Hs, seen, h1.less k, r⟩
theorem Scn.lies {W : World} {base b : Nat} {hashes : List ByteArray} {S : List UInt8} (h : Scn W base b hashes S) : base ≤ b ∧ b < W.heap.size := by
  obtain ⟨bm, n, vt, vs, D, Hs, seen, h1, r⟩ := h
  exact ⟨h1.low, (Array.getElem?_eq_some_iff.1 h1.lies).1⟩
theorem occ_nil {f : List UInt8} (hf : f.length = 32) : ¬ Occ [] f := fun ⟨a, e⟩ => by
  have := win_length hf e
  simp at this
theorem scn_new (w : World) (A : Option Addr) (c : Nat) (hashes : List ByteArray) (hC : Kd.C Kd.string w A hashes.length hashes) (hc : hashes.length ≤ c) (hs : ∀ h ∈ hashes, h.size ≤ 140737488351232) (hn : hashes.length ≤ 1048577) (hw : wantedL hashes = 0) :
    Calls Try.prog 13 #[.slice A hashes.length c] w fun e w' => e = .returned (.tuple #[.pointer (some ⟨w.heap.size + 1, 0, none⟩), .int .i64 0]) ∧ Scn w' w.heap.size (w.heap.size + 1) hashes [] ∧ Below w.heap.size w w' := by
  refine (new_calls w A c hashes hC hc hs (by omega)).mono ?_
  rintro e w' ⟨hb, h⟩
  rcases h with h | ⟨_, n, vs, D, Hs, rfl, hm, hn', hnw⟩
  · exact absurd hw h.1
  · refine ⟨rfl, ⟨_, n, _, vs, D, Hs, _, hm, hnw, List.length_replicate, hn', hn, fun k h hk => ?_⟩, hb⟩
    have hx := hnw.ok h ((hnw.mem h).1 (List.mem_of_getElem? hk))
    constructor
    · intro e
      rw [List.getElem?_replicate] at e
      split at e
      · injection e with e
        cases e
      · cases e
    · exact fun h => absurd h (occ_nil (hash_len hx))
theorem new_bad (w : World) (A : Option Addr) (c : Nat) (hashes : List ByteArray) (hC : Kd.C Kd.string w A hashes.length hashes) (hc : hashes.length ≤ c) (hs : ∀ h ∈ hashes, h.size ≤ 140737488351232) (hn : hashes.length ≤ 1048577) (hw : wantedL hashes ≠ 0) :
    Calls Try.prog 13 #[.slice A hashes.length c] w fun e w' => e = .returned (.tuple #[.pointer none, .int .i64 (wantedL hashes)]) ∧ Below w.heap.size w w' := by
  refine (new_calls w A c hashes hC hc hs (by omega)).mono ?_
  rintro e w' ⟨hb, h⟩
  rcases h with h | h
  · exact ⟨h.2, hb⟩
  · exact absurd h.1 hw
theorem scn_feed (w : World) (base b : Nat) (hashes : List ByteArray) (S : List UInt8) (h : Scn w base b hashes S) (gp op m cp : Nat) (p : List UInt8) (hm : m = p.length) (hmc : m ≤ cp) (hp : ∀ j x, p[j]? = some x → w.cell? ⟨gp, op + j, none⟩ = some (bc x)) (np : gp ≠ b) (hsz : p.length ≤ 4294960000) (hk : S.length ≤ 2305843009213693952) :
    Calls Try.prog 14 #[.pointer (some ⟨b, 0, none⟩), .slice (some ⟨gp, op, none⟩) m cp] w fun e w' => e = .returned (.tuple #[]) ∧ Scn w' base b hashes (S ++ p) ∧ Below base w w' := by
  obtain ⟨bm, n, vt, vs, D, Hs, seen, h1, h2, h3, h4, h5, h6⟩ := h
  have hok : ∀ x ∈ Hs, hashNo (bs x) = 0 := fun x hx => h2.ok x ((h2.mem x).1 hx)
  have hkl : (keep S).length ≤ 31 := by unfold keep; rw [List.length_drop]; omega
  refine (scFeed_calls w base b bm n vt vs (keep S) S.length D Hs seen h1 h2.mo h2.nd hok h3 (by omega) gp op m cp p hm hmc hp np (by omega) hk).mono ?_
  rintro e w' ⟨vt', seen', rfl, hs, hsn, hf, _⟩
  refine ⟨rfl, ⟨bm, n, vt', vs, D, Hs, seen', ?_, h2, by rw [hsn.1, h3], h4, h5, fun k h hk => ?_⟩, below_fr (Below.refl base w) hf (fun g hg => ?_) ?_⟩
  · have e1 : (keep S ++ p).drop ((keep S ++ p).length - 31) = keep (S ++ p) := keep_more S p
    have e2 : (S ++ p).length = S.length + m := by rw [List.length_append, hm]
    rw [e1] at hs
    rw [e2]
    exact hs
  · have hl := hash_len (hok h (List.mem_of_getElem? hk))
    rw [hsn.2 k h hk, h6 k h hk, occ_more hl]
    constructor
    · rintro (h | ⟨a, _, e⟩)
      · exact Or.inl h
      · exact Or.inr ⟨a, e⟩
    · rintro (h | ⟨a, e⟩)
      · exact Or.inl h
      · have := win_length hl e
        exact Or.inr ⟨a, by omega, e⟩
  · rcases hg with rfl | hg
    · exact h1.low
    · exact (s_block h1.rs hg).1
  · have := (Array.getElem?_eq_some_iff.1 h1.lies).1
    have := h1.low
    omega
theorem scn_found (w : World) (base b : Nat) (hashes : List ByteArray) (S : List UInt8) (h : Scn w base b hashes S) :
    Calls Try.prog 15 #[.pointer (some ⟨b, 0, none⟩)] w fun e w' => ∃ (v' : Value) (L : List ByteArray), e = .returned v' ∧ Kd.R Kd.string 9 w' w.heap.size (fun _ => True) v' L ∧ Below w.heap.size w w' ∧ Sorted L ∧ ∀ x, x ∈ L ↔ x ∈ hashes ∧ Occ S (bs x) := by
  obtain ⟨bm, n, vt, vs, D, Hs, seen, h1, h2, h3, h4, h5, h6⟩ := h
  have hl : Hs.length ≤ hashes.length := len_sub Hs hashes h2.nd (fun x hx => by have := (h2.mem x).1 hx; simpa using this)
  refine (found_calls w base b bm n vt vs _ _ D Hs seen h1 h2.mo h2.nd h3 (by omega)).mono ?_
  rintro e w' ⟨v', L, rfl, hr, hb, hs, hm⟩
  refine ⟨v', L, rfl, hr, hb, hs, fun x => ?_⟩
  rw [hm x]
  constructor
  · rintro ⟨k, hk, e⟩
    have := (h2.mem x).1 (List.mem_of_getElem? hk)
    rw [List.take_length] at this
    exact ⟨this, (h6 k x hk).1 e⟩
  · rintro ⟨hx, ho⟩
    obtain ⟨k, hk, e⟩ := List.getElem_of_mem ((h2.mem x).2 (by rw [List.take_length]; exact hx))
    have hk' : Hs[k]? = some x := by rw [List.getElem?_eq_getElem hk, e]
    exact ⟨k, hk', (h6 k x hk').2 ho⟩
theorem scn_taken (w : World) (base b : Nat) (hashes : List ByteArray) (S : List UInt8) (h : Scn w base b hashes S) :
    Calls Try.prog 22 #[.pointer (some ⟨b, 0, none⟩)] w fun e w' => e = .returned (.int .i64 (S.length : Nat)) ∧ w' = w := by
  obtain ⟨bm, n, vt, vs, D, Hs, seen, h1, r⟩ := h
  exact taken_calls w b _ _ _ h1.lies rfl
/-- A Rewriter that took S, told out, and stands open. -/
def Rwr (W : World) (base b : Nat) (f t : ByteArray) (S out : List UInt8) : Prop :=
  ∃ (pl : List Nat) (vt vp : Value) (tl : List UInt8) (d : Nat), Rw W base b vt vp tl S.length f t d pl false ∧ Fed (bs f) (bs t) S out pl 0 tl d ∧ tl.length < 32
/-- .. that is closed. -/
def Rwc (W : World) (base b : Nat) (f t : ByteArray) (S : List UInt8) : Prop :=
  ∃ (vt vp : Value) (tl : List UInt8) (d : Nat), Rw W base b vt vp tl S.length f t d (Pl (bs f) S 0) true
theorem Rwr.less {W W2 : World} {base b : Nat} {f t : ByteArray} {S out : List UInt8} (h : Rwr W base b f t S out) (k : Below W.heap.size W W2) : Rwr W2 base b f t S out := by
  obtain ⟨pl, vt, vp, tl, d, h1, r⟩ := h
  exact ⟨pl, vt, vp, tl, d, h1.below k, r⟩
theorem Rwc.less {W W2 : World} {base b : Nat} {f t : ByteArray} {S : List UInt8} (h : Rwc W base b f t S) (k : Below W.heap.size W W2) : Rwc W2 base b f t S := by
  obtain ⟨vt, vp, tl, d, h1⟩ := h
  exact ⟨vt, vp, tl, d, h1.below k⟩
theorem Rwr.lies {W : World} {base b : Nat} {f t : ByteArray} {S out : List UInt8} (h : Rwr W base b f t S out) : base ≤ b ∧ b < W.heap.size := by
  obtain ⟨pl, vt, vp, tl, d, h1, r⟩ := h
  exact ⟨h1.low, (Array.getElem?_eq_some_iff.1 h1.lies).1⟩
theorem Rwc.lies {W : World} {base b : Nat} {f t : ByteArray} {S : List UInt8} (h : Rwc W base b f t S) : base ≤ b ∧ b < W.heap.size := by
  obtain ⟨vt, vp, tl, d, h1⟩ := h
  exact ⟨h1.low, (Array.getElem?_eq_some_iff.1 h1.lies).1⟩
theorem rwr_new (w : World) (f t : ByteArray) (hf : f.size ≤ 140737488351232) (ht : t.size ≤ 140737488351232) (hw : wanted2 f t = 0) : Calls Try.prog 16 #[.string f, .string t] w fun e w' =>
    ∃ b, e = .returned (.tuple #[.pointer (some ⟨b, 0, none⟩), .int .i64 0]) ∧ Rwr w' w.heap.size b f t [] [] ∧ Below w.heap.size w w' := by
  refine (newRw_calls w f t hf ht).mono ?_
  rintro e w' (h | ⟨_, b, rfl, hr, hb⟩)
  · exact absurd hw h.1
  · exact ⟨b, rfl, ⟨[], _, _, [], 0, hr, Fed.start _ _ _ _, by decide⟩, hb⟩
theorem rwr_feed (w : World) (base b : Nat) (m : Int) (f t : ByteArray) (S out : List UInt8) (h : Rwr w base b f t S out) (hz : 0 < base) (hm : w.cell? ⟨0, 0, none⟩ = some (.int .i64 m)) (hf : (bs f).length = 32) (ht : (bs t).length = 32)
    (gp op n cp : Nat) (p : List UInt8) (hn : n = p.length) (hnc : n ≤ cp) (hp : ∀ j x, p[j]? = some x → w.cell? ⟨gp, op + j, none⟩ = some (bc x)) (np : gp ≠ b) (hsz : p.length ≤ 4294960000) (hk : S.length ≤ 1099511627776) :
    Calls Try.prog 17 #[.pointer (some ⟨b, 0, none⟩), .slice (some ⟨gp, op, none⟩) n cp] w fun e w' => ∃ O : ByteArray, e = .returned (.string O) ∧ Rwr w' base b f t (S ++ p) (out ++ bs O) ∧ Below base w w' := by
  obtain ⟨pl, vt, vp, tl, d, h1, h2, h3⟩ := h
  have hbs := (Array.getElem?_eq_some_iff.1 h1.lies).1
  have hlow := h1.low
  have hd := h2.pos
  have hpl : pl.length ≤ S.length := by
    have e := congrArg List.length (h2.place [])
    rw [List.append_nil, List.append_nil, List.length_append] at e
    have := Pl_length hf _ S 0 (Nat.le_refl _)
    omega
  refine (feed_calls w base b m vt vp tl S.length f t d pl h1 hz (by omega) hm hf ht gp op n cp p hn hnc hp np (by omega) (by omega) (by omega) (by omega)).mono ?_
  rintro e w' ⟨O, T, pl2, d', vt', vp', rfl, hfd, htl, hr, hfr, _⟩
  refine ⟨O, rfl, ⟨pl ++ pl2, vt', vp', bs T, d', ?_, h2.more hfd, by rw [← size_bs]; exact htl⟩, below_fr (Below.refl base w) hfr (fun g hg => ?_) (by omega)⟩
  · rw [List.length_append, ← hn]
    exact hr
  · rcases hg with rfl | hg
    · exact hlow
    · rcases r_own h1.rp with ⟨rfl, _⟩ | ⟨g', cap, cur, rfl, hb, _⟩
      · cases hg
      · have : g' = g := by simpa [Value.ownBlock] using hg
        omega
theorem Rwr.told {W : World} {base b : Nat} {f t : ByteArray} {S out : List UInt8} (h : Rwr W base b f t S out) : out.length ≤ S.length := by
  obtain ⟨pl, vt, vp, tl, d, h1, h2, h3⟩ := h
  have := h2.len
  omega
theorem rwr_taken (w : World) (base b : Nat) (f t : ByteArray) (S out : List UInt8) (h : Rwr w base b f t S out) :
    Calls Try.prog 22 #[.pointer (some ⟨b, 0, none⟩)] w fun e w' => e = .returned (.int .i64 (S.length : Nat)) ∧ w' = w := by
  obtain ⟨pl, vt, vp, tl, d, h1, r⟩ := h
  exact taken_calls w b _ _ _ h1.lies rfl
theorem rwc_taken (w : World) (base b : Nat) (f t : ByteArray) (S : List UInt8) (h : Rwc w base b f t S) :
    Calls Try.prog 22 #[.pointer (some ⟨b, 0, none⟩)] w fun e w' => e = .returned (.int .i64 (S.length : Nat)) ∧ w' = w := by
  obtain ⟨vt, vp, tl, d, h1⟩ := h
  exact taken_calls w b _ _ _ h1.lies rfl
theorem rwr_close (w : World) (base b : Nat) (f t : ByteArray) (S out : List UInt8) (h : Rwr w base b f t S out) (hf : (bs f).length = 32) : Calls Try.prog 18 #[.pointer (some ⟨b, 0, none⟩)] w fun e w' =>
    ∃ T : ByteArray, e = .returned (.string T) ∧ out ++ bs T = R (bs f) (bs t) S ∧ Rwc w' base b f t S ∧ Below base w w' := by
  obtain ⟨pl, vt, vp, tl, d, h1, h2, h3⟩ := h
  obtain ⟨e1, e2⟩ := h2.whole hf h3
  have hbs := (Array.getElem?_eq_some_iff.1 h1.lies).1
  have hlow := h1.low
  refine (close_calls w base b vt vp tl _ f t d pl false h1).mono ?_
  rintro e w' ⟨rfl, hr, hfr⟩
  rw [if_neg Bool.false_ne_true]
  exact ⟨_, rfl, by rw [bs_mk]; exact e1, ⟨vt, vp, tl, d, by rw [← e2]; exact hr⟩, below_fr (Below.refl base w) hfr (fun g hg => by rw [hg]; exact hlow) (by omega)⟩
theorem rwc_close (w : World) (base b : Nat) (f t : ByteArray) (S : List UInt8) (h : Rwc w base b f t S) : Calls Try.prog 18 #[.pointer (some ⟨b, 0, none⟩)] w fun e w' =>
    e = .returned (.string ⟨#[]⟩) ∧ Rwc w' base b f t S ∧ Below base w w' := by
  obtain ⟨vt, vp, tl, d, h1⟩ := h
  have hbs := (Array.getElem?_eq_some_iff.1 h1.lies).1
  have hlow := h1.low
  refine (close_calls w base b vt vp tl _ f t d _ true h1).mono ?_
  rintro e w' ⟨rfl, hr, hfr⟩
  rw [if_pos rfl]
  exact ⟨rfl, ⟨vt, vp, tl, d, hr⟩, below_fr (Below.refl base w) hfr (fun g hg => by rw [hg]; exact hlow) (by omega)⟩
theorem rwc_places (w : World) (base b : Nat) (f t : ByteArray) (S : List UInt8) (h : Rwc w base b f t S) (hf : (bs f).length = 32) (hs : S.length ≤ 1099511627776) : Calls Try.prog 19 #[.pointer (some ⟨b, 0, none⟩)] w fun e w' =>
    ∃ v', e = .returned v' ∧ Kd.R (Kd.int .i64) 3 w' w.heap.size (fun _ => True) v' (zs (Pl (bs f) S 0)) ∧ Below w.heap.size w w' := by
  obtain ⟨vt, vp, tl, d, h1⟩ := h
  have := Pl_length hf _ S 0 (Nat.le_refl _)
  exact places_calls w base b vt vp tl _ f t d _ true h1 (by omega)
/-- A Feed of one that is closed: nothing. -/
theorem rwc_feed (w : World) (base b : Nat) (f t : ByteArray) (S : List UInt8) (h : Rwc w base b f t S) (A : Option Addr) (n c : Nat) : Calls Try.prog 17 #[.pointer (some ⟨b, 0, none⟩), .slice A n c] w fun e w' => e = .returned (.string ⟨#[]⟩) ∧ w' = w := by
  obtain ⟨vt, vp, tl, d, h1⟩ := h
  have c6 := row_cell (i := 6) h1.lies rfl
  clear h1
  go_enter Try.func17, Try.ntmps17
  go_wp2
  go_ret
  exact ⟨rfl, rfl⟩
/-- Where f stood, and the text around. -/
theorem pl_cons {f : List UInt8} (t : List UInt8) (hf : f.length = 32) : ∀ (s : List UInt8) (d p : Nat) (rest : List Nat), Pl f s d = p :: rest → ∃ j, p = d + j ∧ j + 32 ≤ s.length ∧ (s.drop j).take 32 = f ∧ rest = Pl f (s.drop (j + 32)) (p + 32) ∧ R f t s = s.take j ++ (t ++ R f t (s.drop (j + 32)))
  | [], d, p, rest, h => by rw [Pl_nil] at h; cases h
  | c :: s, d, p, rest, h => by
    by_cases e : (c :: s).take 32 = f
    · rw [Pl_hit hf e] at h
      injection h with h1 h2
      have hl := congrArg List.length e
      rw [hf, List.length_take] at hl
      refine ⟨0, by omega, by omega, e, ?_, ?_⟩
      · rw [← h2, ← h1, Nat.zero_add]
      · rw [R_hit hf e, Nat.zero_add]
        rfl
    · rw [Pl_miss e] at h
      obtain ⟨j, h1, h2, h3, h4, h5⟩ := pl_cons t hf s (d + 1) p rest h
      refine ⟨j + 1, by omega, by rw [List.length_cons]; omega, h3, ?_, ?_⟩
      · rw [h4, Nat.add_right_comm j 1 32, List.drop_succ_cons]
      · rw [R_miss e, h5, Nat.add_right_comm j 1 32, List.drop_succ_cons]
        rfl
theorem pl_none {f : List UInt8} (t : List UInt8) (hf : f.length = 32) : ∀ (s : List UInt8) (d : Nat), Pl f s d = [] → R f t s = s ∧ ¬ Occ s f
  | [], d, h => ⟨R_nil f t, occ_nil hf⟩
  | c :: s, d, h => by
    by_cases e : (c :: s).take 32 = f
    · rw [Pl_hit hf e] at h
      cases h
    · rw [Pl_miss e] at h
      obtain ⟨h1, h2⟩ := pl_none t hf s (d + 1) h
      refine ⟨by rw [R_miss e, h1], fun ⟨a, ha⟩ => ?_⟩
      cases a with
      | zero => exact e ha
      | succ a => exact h2 ⟨a, by simpa using ha⟩
theorem pl_occ {f : List UInt8} (hf : f.length = 32) (s : List UInt8) : (Pl f s 0).length > 0 ↔ Occ s f := by
  cases h : Pl f s 0 with
  | nil => simp [(pl_none f hf s 0 h).2]
  | cons p rest =>
    obtain ⟨j, _, _, h3, _⟩ := pl_cons f hf s 0 p rest h
    simp only [List.length_cons, Nat.zero_lt_succ, true_iff, gt_iff_lt]
    exact ⟨j, h3⟩
end Go.Proofs.Ytbllmpfdhcbkpaa.Scan
/- The law ScanSwaps. -/
namespace Go.Proofs.Ytbllmpfdhcbkpaa.Scan
open Go.Shelf Go.RowKit Go.Proofs.Ytbllmpfdhcbkpaa.Q Go.Proofs.Ytbllmpfdhcbkpaa.SpathPure Go.Proofs.Ytbllmpfdhcbkpaa.Rise Go.Proofs.YtbllmpfdhcbkpaaW.PrintWords Go.Proofs.YtbllmpfdhcbkpaaW.PrintLast Go.Proofs.YtbllmpfdhcbkpaaW.PrintMore Go.Proofs.Ytbllmpfdhcbkpaa.Bytes
set_option linter.unusedVariables false
set_option linter.unusedSimpArgs false
/-- Where the loop over the places stands. -/
structure Mark (f t X O : List UInt8) (P : List Nat) (i p : Nat) : Prop where
  pl : Pl f (X.drop p) p = P.drop i
  out : O.drop p = R f t (X.drop p)
  le : p ≤ X.length
theorem Mark.start (f t X : List UInt8) : Mark f t X (R f t X) (Pl f X 0) 0 0 := ⟨rfl, rfl, Nat.zero_le _⟩
theorem Mark.next {f t X O : List UInt8} {P : List Nat} {i p : Nat} (hf : f.length = 32) (ht : t.length = 32) (h : Mark f t X O P i p) (hi : i < P.length) : p ≤ P[i] ∧ P[i] + 32 ≤ X.length ∧ (X.drop p).take (P[i] - p) = (O.drop p).take (P[i] - p) ∧ (X.drop P[i]).take 32 = f ∧ (O.drop P[i]).take 32 = t ∧ Mark f t X O P (i + 1) (P[i] + 32) := by
  obtain ⟨q, hq⟩ : ∃ q, P[i] = q := ⟨_, rfl⟩
  have hd : P.drop i = q :: P.drop (i + 1) := by rw [List.drop_eq_getElem_cons hi, hq]
  obtain ⟨j, h1, h2, h3, h4, h5⟩ := pl_cons t hf (X.drop p) p q (P.drop (i + 1)) (h.pl.trans hd)
  have hle := h.le
  rw [List.length_drop] at h2
  rw [hq]
  have hj : q - p = j := by omega
  have hO : O.drop p = (X.drop p).take j ++ (t ++ R f t ((X.drop p).drop (j + 32))) := h.out.trans h5
  have hl : ((X.drop p).take j).length = j := by rw [List.length_take, List.length_drop]; omega
  have hOq : O.drop q = t ++ R f t ((X.drop p).drop (j + 32)) := by
    rw [show q = p + j from h1, ← List.drop_drop, hO, List.drop_append_of_le_length (by omega), List.drop_of_length_le (by omega), List.nil_append]
  have hX : (X.drop p).drop (j + 32) = X.drop (q + 32) := by rw [List.drop_drop, h1, Nat.add_assoc]
  refine ⟨by omega, by omega, ?_, ?_, ?_, ?_, ?_, by omega⟩
  · rw [hO, hj, List.take_append_of_le_length (by omega), List.take_take, Nat.min_self]
  · rw [h1, ← List.drop_drop]; exact h3
  · rw [hOq, List.take_append_of_le_length (by omega), List.take_of_length_le (by omega)]
  · rw [← hX, ← h4]
  · rw [← List.drop_drop, hOq, ← hX, List.drop_append_of_le_length (by omega), List.drop_of_length_le (by omega), List.nil_append]
theorem Mark.last {f t X O : List UInt8} {P : List Nat} {p : Nat} (hf : f.length = 32) (h : Mark f t X O P P.length p) : X.drop p = O.drop p := by
  have h1 := h.pl
  rw [List.drop_of_length_le (Nat.le_refl _)] at h1
  rw [h.out, (pl_none t hf _ _ h1).1]
theorem run_cut (W : World) (s : ByteArray) (a b : Int) (h0 : 0 ≤ a) (h1 : a ≤ b) (h2 : b ≤ s.size) : (Instr.slice 9 (.string s) (some (.int .i64 a)) (some (.int .i64 b)) none).run Try.prog W = .ok (.string (s.extract a.toNat b.toNat)) W := by
  have eh : (b.toNat : Int) = b := Int.toNat_of_nonneg (by omega)
  simp [Instr.slice, run_underlying Try.underlying9, Instr.sliceBounds, run_sliceBound, sliced, *, eh, (by omega : 0 ≤ b)]
theorem run_from (W : World) (s : ByteArray) (a : Int) (h0 : 0 ≤ a) (h1 : a ≤ s.size) : (Instr.slice 9 (.string s) (some (.int .i64 a)) none none).run Try.prog W = .ok (.string (s.extract a.toNat s.size)) W := run_slice_string_l W _ s Try.underlying9 _ _ h0 h1
theorem cut_bs {s x : ByteArray} {a b : Nat} (h : ((bs s).drop a).take (b - a) = bs x) : s.extract a b = x := bs_inj (by rw [bs_extract]; exact h)
theorem found_one {L : List ByteArray} {x : ByteArray} {S : List UInt8} (hL : Sorted L) (hm : ∀ y, y ∈ L ↔ y ∈ [x] ∧ Occ S (bs y)) (ho : Occ S (bs x)) : L = [x] :=
  sorted_ext hL (List.pairwise_singleton _ _) (fun y => by
    rw [hm y]
    constructor
    · exact fun h => h.1
    · intro h
      refine ⟨h, ?_⟩
      rw [List.mem_singleton] at h
      rw [h]
      exact ho)
theorem found_none {L : List ByteArray} {x : ByteArray} {S : List UInt8} (hm : ∀ y, y ∈ L ↔ y ∈ [x] ∧ Occ S (bs y)) (ho : ¬ Occ S (bs x)) : L = [] := by
  cases L with
  | nil => rfl
  | cons y l =>
    obtain ⟨h1, h2⟩ := (hm y).1 List.mem_cons_self
    rw [List.mem_singleton] at h1
    rw [h1] at h2
    exact absurd h2 ho
set_option maxRecDepth 100000 in
set_option maxHeartbeats 4000000 in
theorem swaps_true (w : World) (m : Int) (hm : w.cell? ⟨0, 0, none⟩ = some (.int .i64 m)) (x0 x1 x2 : ByteArray) (h0 : x0.size ≤ 1048576) (h1 : x1.size ≤ 1048576) (h2 : x2.size ≤ 1048576) :
    Calls Try.prog 5 #[.string x0, .string x1, .string x2] w fun e w' => e = .returned (.bool true) ∧ Below w.heap.size w w' := by
  have hz := mx_pos hm
  have HM := Aside0.mk hm
  have CA := Aside0.mk (awake_calls w m hm)
  have CR := Aside0.mk (fun (W : World) (hW : W.cell? ⟨0, 0, none⟩ = some (.int .i64 m)) => rewrite_calls W m x0 x1 x2 hW (by omega) (by omega) (by omega))
  by_cases hw : wanted2 x1 x2 = 0
  · obtain ⟨hf, ht⟩ := wanted_len hw
    have hpl := Pl_length hf _ (bs x0) 0 (Nat.le_refl _)
    have hol := R_length (t := bs x2) hf ht _ (bs x0) (Nat.le_refl _)
    have CR2 := Aside0.mk (fun (W : World) (hW : W.cell? ⟨0, 0, none⟩ = some (.int .i64 m)) => (CR.out W hW).mono (R' := fun e w' => Below W.heap.size W w' ∧ ∃ v', e = .returned (.tuple #[.string ⟨(R (bs x1) (bs x2) (bs x0)).toArray⟩, v', .int .i64 0]) ∧ Kd.R (Kd.int .i64) 3 w' W.heap.size (fun _ => True) v' (zs (Pl (bs x1) (bs x0) 0))) (fun e w' h => ⟨h.1, by
      rcases h.2 with h | h
      · exact absurd hw h.1
      · exact h.2⟩))
    have HOC := Aside0.mk (pl_occ hf (bs x0))
    have HMK := Aside0.mk (Mark.start (bs x1) (bs x2) (bs x0))
    obtain ⟨O, hO⟩ : ∃ O : ByteArray, (⟨(R (bs x1) (bs x2) (bs x0)).toArray⟩ : ByteArray) = O := ⟨_, rfl⟩
    have hbO : R (bs x1) (bs x2) (bs x0) = bs O := by rw [← hO]; exact (bs_mk _).symm
    obtain ⟨P, hP⟩ : ∃ P : List Nat, Pl (bs x1) (bs x0) 0 = P := ⟨_, rfl⟩
    have hosz : O.size = x0.size := by rw [hbO, ← size_bs, ← size_bs] at hol; exact hol
    have d0 : (((O.size : Nat) : Int) != ((x0.size : Nat) : Int)) = false := by rw [hosz]; simp
    rw [hP, ← size_bs] at hpl
    have HFT := Aside0.mk (And.intro hf ht)
    have hw1 : wantedL [x1] = 0 := by
      unfold wanted2 at hw
      unfold wantedL wantedL
      by_cases hh : hashNo (bs x1) = 0
      · rw [if_neg (fun k => k hh)]
      · rw [if_pos hh] at hw
        exact absurd hw hh
    have HW1 := Aside0.mk hw1
    simp only [hO, hP] at CR2 HOC
    simp only [hP] at HMK
    rw [hbO] at HMK
    have CN := Aside0.mk (fun (W : World) (g : Nat) (hq : SQ W g 1 [x1]) => (show Calls Try.prog 13 #[.slice (some ⟨g, 0, none⟩) 1 1] W (fun e w' => e = .returned (.tuple #[.pointer (some ⟨W.heap.size + 1, 0, none⟩), .int .i64 0]) ∧ Scn w' W.heap.size (W.heap.size + 1) [x1] [] ∧ Below W.heap.size W w') from
      scn_new W (some ⟨g, 0, none⟩) 1 [x1] hq.all (Nat.le_refl _) (fun h hh => by rw [List.mem_singleton] at hh; rw [hh]; omega) (by simp) hw1))
    clear hP hO hbO hw CR hm hf ht hw1 hol
    have hzl : (zs P).length = P.length := by unfold zs; rw [List.length_map]
    go_enter Try.func5, Try.ntmps5
    go_wp2_with (first
      | (go_at_call 9; ((with_reducible refine CA.out.mono ?_)); rintro e w1 ⟨rfl, hb⟩; have HB1 := Aside0.mk hb; clear hb)
      | (go_at_call 10; ((with_reducible refine (CR2.out w1 (mx_below HM.out HB1.out hz)).mono ?_)); rintro e w2 ⟨hb, v2, rfl, hr2⟩; have HB2 := Aside0.mk (HB1.out.trans (hb.mono HB1.out.size)); obtain ⟨A2, c2, rfl, hc2, hC2⟩ := Kd.R_reads hr2; rw [hzl] at hc2 hC2; have HC2 := Aside0.mk hC2; have HD2 := Aside0.mk hc2; clear hb hr2 hC2 hc2))
    go_loopg [10, 45] P.length (fun g v10 v45 wx => ∃ (i p : Nat), i + g = P.length ∧ v10 = .int .i64 (p : Int) ∧ v45 = .int .i64 (i : Int) ∧ Aside0 (Mark (bs x1) (bs x2) (bs x0) (bs O) P i p) ∧ Aside0 (Below w2.heap.size w2 wx))
    case atStart => exact ⟨0, 0, by omega, rfl, rfl, HMK, ⟨Below.refl _ _⟩⟩
    case round =>
      obtain ⟨i, p, hig, rfl, rfl, HK, HB⟩ := hrel
      cases gk with
      | succ g =>
        have hi : i < P.length := by omega
        obtain ⟨k1, k2, k3, k4, k5, k6⟩ := HK.out.next HFT.out.1 HFT.out.2 hi
        have p1 : 0 ≤ (i : Int) := by omega
        have p2 : (i : Int) < (P.length : Int) := by omega
        obtain ⟨ad, rfl, hl0⟩ := Kd.at_int (k := .i64) HC2.out (i : Int) p1 p2
        have ez : rdOf (0 : Int) (zs P) (i : Int) = (P[i] : Int) := by
          unfold zs rdOf
          rw [Int.toNat_natCast, List.getD_eq_getElem?_getD, List.getElem?_map, List.getElem?_eq_getElem hi]
          rfl
        replace hl0 : w2.cell? (ad.add i) = some (.int .i64 (P[i] : Int)) := by rw [← ez]; exact hl0
        replace hl0 := (Fr.of_below (S := fun _ => False) HB.out).cell hl0 (fun h => h)
        obtain ⟨q, hq⟩ : ∃ q, P[i] = q := ⟨_, rfl⟩
        rw [hq] at k1 k2 k3 k4 k5 k6 hl0
        clear ez hq
        rw [← size_bs] at k2
        have K6 := Aside0.mk k6
        obtain ⟨Y, hY⟩ : ∃ Y, x0.extract p q = Y := ⟨_, rfl⟩
        have hYO : O.extract p q = Y := by rw [← hY]; exact cut_bs (by rw [bs_extract]; exact k3.symm)
        have R1 := fun (W : World) => run_cut W x0 (p : Int) (q : Int) (by omega) (by omega) (by omega)
        have R2 := fun (W : World) => run_cut W O (p : Int) (q : Int) (by omega) (by omega) (by omega)
        have R3 := fun (W : World) => run_cut W x0 (q : Int) ((q : Int) + 32) (by omega) (by omega) (by omega)
        have R4 := fun (W : World) => run_cut W O (q : Int) ((q : Int) + 32) (by omega) (by omega) (by omega)
        have t1 : ((q : Int) + 32).toNat = q + 32 := by omega
        have g1 : x0.extract q (q + 32) = x1 := cut_bs (by rw [Nat.add_sub_cancel_left]; exact k4)
        have g2 : O.extract q (q + 32) = x2 := cut_bs (by rw [Nat.add_sub_cancel_left]; exact k5)
        simp only [Int.toNat_natCast, t1, hY, hYO, g1, g2] at R1 R2 R3 R4
        clear hY hYO t1 g1 g2 k3 k4 k5 k6
        have e1 : decide ((q : Int) < (p : Int)) = false := decide_eq_false (by omega)
        have e2 : ((q : Int) ≤ (x0.size : Int) - 32) = True := eq_true (by omega)
        have e3 : decide ((x0.size : Int) - 32 < (q : Int)) = false := decide_eq_false (by omega)
        have e4 : decide (q < p) = false := decide_eq_false (by omega)
        have u1 : IntKind.i64.wrap ((x0.size : Int) - 32) = (x0.size : Int) - 32 := IntWalk.i64_in _ (by omega)
        have u2 : IntKind.i64.wrap ((q : Int) + 32) = (q : Int) + 32 := IntWalk.i64_in _ (by clear u1; omega)
        go_wp2
        refine wp_region_still_lit (by kernel_rfl) (by kernel_rfl) ?_
        change wpStill _ _ (World.drew wr) _ _ _
        have HB8 := Aside0.mk (HB.out.trans ((below_drew (Below.refl _ wr)).mono HB.out.size))
        generalize hA_ : Act.mk _ _ = A_
        iterate 39 (refine wpStill_step (fun K hK => ?_); subst hA_; go_simp; generalize hA_ : Act.mk _ _ = A_; with_reducible refine hK _ ?_; clear hK K)
        refine wpStill_nil ?_
        subst hA_
        clear u1 u2
        go_wp2
        go_roundg g
        case measure => omega
        case rel => exact ⟨i + 1, q + 32, by omega, by go_num, by go_num, K6, HB8⟩
      | zero =>
        obtain rfl : i = P.length := by omega
        have hlast := HK.out.last HFT.out.1
        have hle := HK.out.le
        rw [← size_bs] at hle
        obtain ⟨Y, hY⟩ : ∃ Y, x0.extract p x0.size = Y := ⟨_, rfl⟩
        have hYO : O.extract p O.size = Y := by
          rw [← hY]
          refine cut_bs ?_
          rw [bs_extract, hosz, ← hlast]
        have R1 := fun (W : World) => run_from W x0 (p : Int) (by omega) (by omega)
        have R2 := fun (W : World) => run_from W O (p : Int) (by omega) (by omega)
        simp only [Int.toNat_natCast, hY, hYO] at R1 R2
        clear hY hYO hlast
        go_wp2
        refine wp_region_still_lit (by kernel_rfl) (by kernel_rfl) ?_
        change wpStill _ _ (World.drew wr) _ _ _
        have HB8 := Aside0.mk (HB2.out.trans ((HB.out.trans ((below_drew (Below.refl _ wr)).mono HB.out.size)).mono HB2.out.size))
        generalize hA_ : Act.mk _ _ = A_
        iterate 7 (refine wpStill_step (fun K hK => ?_); subst hA_; go_simp; generalize hA_ : Act.mk _ _ = A_; with_reducible refine hK _ ?_; clear hK K)
        refine wpStill_nil ?_
        subst hA_
        by_cases hP : 0 < P.length
        · have ho := HOC.out.1 hP
          have HO := Aside0.mk ho
          have d4 : decide ((0 : Int) < (P.length : Int)) = true := decide_eq_true (by omega)
          have d5 : decide (0 < P.length) = true := decide_eq_true hP
          clear ho
          go_wp2_with (first
            | (go_at_call 13; change Calls _ _ #[.slice (some ⟨(World.drew wr).heap.size, 0, none⟩) 1 1] ((World.drew wr).alloc (.cells #[.string x1] 9)) _; generalize World.drew wr = w8 at HB8 ⊢; have hba := below_alloc (Below.refl w8.heap.size w8) (.cells #[.string x1] 9); have hq : SQ (w8.alloc (.cells #[.string x1] 9)) w8.heap.size 1 [x1] := ⟨⟨_, World.alloc_heap_new w8 _, rfl, rfl⟩, Nat.le_refl _, by decide⟩; generalize w8.alloc (.cells #[.string x1] 9) = w9 at hba hq ⊢; have HB9 := Aside0.mk (HB8.out.trans (hba.mono HB8.out.size)); ((with_reducible refine (CN.out w9 _ hq).mono ?_)); rintro e w10 ⟨rfl, hs, hb⟩; have HS10 := Aside0.mk hs; have HB10 := Aside0.mk (HB9.out.trans (hb.mono HB9.out.size)); clear hs hb hba hq)
            | ((with_reducible refine gate_dst (N := 108) rfl ?_); refine wpList_conv rfl (N := 108) rfl (.tmp 107) rfl x0 rfl (by have : maxLen = 9223372036854775807 := rfl; omega) ?_; intro g2 c2 w11 _ hc2 hcl2 hg2 hb2; have HC2 := Aside0.mk hc2; have HCL := Aside0.mk hcl2; have HS11 := Aside0.mk (HS10.out.less hb2); have HB11 := Aside0.mk (HB10.out.trans (hb2.mono HB10.out.size)); have HNE := Aside0.mk (show g2 ≠ w9.heap.size + 1 from by have := HS10.out.lies.2; omega); clear hc2 hcl2 hg2 hb2)
            | (go_at_call 14; ((with_reducible refine (scn_feed w11 _ _ [x1] [] HS11.out g2 0 x0.size c2 (bs x0) (size_bs x0) HC2.out HCL.out HNE.out (by rw [← size_bs]; omega) (by decide)).mono ?_)); rintro e w12 ⟨rfl, hs, hb⟩; have HS12 := Aside0.mk hs; have HB12 := Aside0.mk (HB11.out.trans (hb.mono HB9.out.size)); clear hs hb)
            | (go_at_call 15; ((with_reducible refine (scn_found w12 _ _ _ _ HS12.out).mono ?_)); rintro e w13 ⟨v, L, rfl, hr, hb, hso, hm⟩; obtain rfl := found_one hso hm HO.out; obtain ⟨A3, c3, rfl, hc3, hC3⟩ := Kd.R_reads hr; have HB13 := Aside0.mk (HB12.out.trans (hb.mono HB12.out.size)); clear hr hb hso hm hc3 hC3))
          go_ret
          exact ⟨rfl, HB13.out⟩
        · have ho := fun h => hP (HOC.out.2 h)
          have HO := Aside0.mk ho
          have d4 : decide ((0 : Int) < (P.length : Int)) = false := decide_eq_false (by omega)
          have d5 : decide (0 < P.length) = false := decide_eq_false hP
          clear ho
          go_wp2_with (first
            | (go_at_call 13; change Calls _ _ #[.slice (some ⟨(World.drew wr).heap.size, 0, none⟩) 1 1] ((World.drew wr).alloc (.cells #[.string x1] 9)) _; generalize World.drew wr = w8 at HB8 ⊢; have hba := below_alloc (Below.refl w8.heap.size w8) (.cells #[.string x1] 9); have hq : SQ (w8.alloc (.cells #[.string x1] 9)) w8.heap.size 1 [x1] := ⟨⟨_, World.alloc_heap_new w8 _, rfl, rfl⟩, Nat.le_refl _, by decide⟩; generalize w8.alloc (.cells #[.string x1] 9) = w9 at hba hq ⊢; have HB9 := Aside0.mk (HB8.out.trans (hba.mono HB8.out.size)); ((with_reducible refine (CN.out w9 _ hq).mono ?_)); rintro e w10 ⟨rfl, hs, hb⟩; have HS10 := Aside0.mk hs; have HB10 := Aside0.mk (HB9.out.trans (hb.mono HB9.out.size)); clear hs hb hba hq)
            | ((with_reducible refine gate_dst (N := 108) rfl ?_); refine wpList_conv rfl (N := 108) rfl (.tmp 107) rfl x0 rfl (by have : maxLen = 9223372036854775807 := rfl; omega) ?_; intro g2 c2 w11 _ hc2 hcl2 hg2 hb2; have HC2 := Aside0.mk hc2; have HCL := Aside0.mk hcl2; have HS11 := Aside0.mk (HS10.out.less hb2); have HB11 := Aside0.mk (HB10.out.trans (hb2.mono HB10.out.size)); have HNE := Aside0.mk (show g2 ≠ w9.heap.size + 1 from by have := HS10.out.lies.2; omega); clear hc2 hcl2 hg2 hb2)
            | (go_at_call 14; ((with_reducible refine (scn_feed w11 _ _ [x1] [] HS11.out g2 0 x0.size c2 (bs x0) (size_bs x0) HC2.out HCL.out HNE.out (by rw [← size_bs]; omega) (by decide)).mono ?_)); rintro e w12 ⟨rfl, hs, hb⟩; have HS12 := Aside0.mk hs; have HB12 := Aside0.mk (HB11.out.trans (hb.mono HB9.out.size)); clear hs hb)
            | (go_at_call 15; ((with_reducible refine (scn_found w12 _ _ _ _ HS12.out).mono ?_)); rintro e w13 ⟨v, L, rfl, hr, hb, hso, hm⟩; obtain rfl := found_none hm HO.out; obtain ⟨A3, c3, rfl, hc3, hC3⟩ := Kd.R_reads hr; have HB13 := Aside0.mk (HB12.out.trans (hb.mono HB12.out.size)); clear hr hb hso hm hc3 hC3))
          go_ret
          exact ⟨rfl, HB13.out⟩
  · have CR2 := Aside0.mk (fun (W : World) (hW : W.cell? ⟨0, 0, none⟩ = some (.int .i64 m)) => (CR.out W hW).mono (R' := fun e w' => Below W.heap.size W w' ∧ e = .returned (.tuple #[.string ⟨#[]⟩, .slice none 0 0, .int .i64 131])) (fun e w' h => ⟨h.1, by
      rcases h.2 with h | h
      · have h131 : wanted2 x1 x2 = 131 := by
          unfold wanted2 at hw ⊢
          rcases hashNo_cases (bs x1) with h1 | h1
          · rw [if_neg (fun k => k h1)] at hw ⊢
            exact (hashNo_cases (bs x2)).resolve_left hw
          · rw [if_pos (by rw [h1]; decide)]
            exact h1
        rw [h131] at h
        exact h.2
      · exact absurd h.1 hw⟩))
    clear hw CR hm
    go_enter Try.func5, Try.ntmps5
    go_wp2_with (first
      | (go_at_call 9; ((with_reducible refine CA.out.mono ?_)); rintro e w1 ⟨rfl, hb⟩; have HB1 := Aside0.mk hb; clear hb)
      | (go_at_call 10; ((with_reducible refine (CR2.out w1 (mx_below HM.out HB1.out hz)).mono ?_)); rintro e w2 ⟨hb, rfl⟩; have HB2 := Aside0.mk (HB1.out.trans (hb.mono HB1.out.size)); clear hb))
    go_ret
    exact ⟨rfl, HB2.out⟩
end Go.Proofs.Ytbllmpfdhcbkpaa.Scan
/- The law ScanPlanted. -/
namespace Go.Proofs.Ytbllmpfdhcbkpaa.Scan
open Go.Shelf Go.RowKit Go.Proofs.Ytbllmpfdhcbkpaa.Q Go.Proofs.Ytbllmpfdhcbkpaa.SpathPure Go.Proofs.Ytbllmpfdhcbkpaa.Rise Go.Proofs.YtbllmpfdhcbkpaaW.PrintWords Go.Proofs.YtbllmpfdhcbkpaaW.PrintLast Go.Proofs.YtbllmpfdhcbkpaaW.PrintMore Go.Proofs.Ytbllmpfdhcbkpaa.Bytes
set_option linter.unusedVariables false
set_option linter.unusedSimpArgs false
def sHead : ByteArray := ⟨#[48, 49, 50, 51, 52, 53, 54, 55, 56, 57, 97, 98, 99, 100, 102, 103, 104, 105, 106, 107, 108, 109, 110, 112, 113, 114, 115, 118, 119, 120, 121]⟩
def sEHead : ByteArray := ⟨#[101, 48, 49, 50, 51, 52, 53, 54, 55, 56, 57, 97, 98, 99, 100, 102, 103, 104, 105, 106, 107, 108, 109, 110, 112, 113, 114, 115, 118, 119, 120, 121]⟩
theorem run_head (W : World) : (Instr.slice 9 (.string ⟨#[48, 49, 50, 51, 52, 53, 54, 55, 56, 57, 97, 98, 99, 100, 102, 103, 104, 105, 106, 107, 108, 109, 110, 112, 113, 114, 115, 118, 119, 120, 121, 122]⟩) none (some (.int .i64 31)) none).run Try.prog W = .ok (.string sHead) W := by
  rw [run_slice_string_h W 9 _ Try.underlying9 .i64 31 (by decide) (by decide)]
  rfl
theorem e_head : (⟨#[101]⟩ : ByteArray) ++ sHead = sEHead := rfl
theorem wanted_12 : wantedL [sOne, sTwo] = 0 := by
  unfold wantedL wantedL wantedL
  rw [if_neg (fun h => h one_ok), if_neg (fun h => h two_ok)]
theorem wanted_1 : wantedL [sOne] = 0 := by
  unfold wantedL wantedL
  rw [if_neg (fun h => h one_ok)]
theorem one_lt_two : Rise.Lt sOne sTwo := by
  unfold Rise.Lt
  rw [toList_bs, toList_bs]
  decide +kernel
theorem head_out : ∀ a, a < 63 → ((bs sHead ++ bs sEHead).drop a).take 32 ≠ bs sOne := by decide +kernel
theorem head_not : ¬ Occ (([] ++ bs sHead) ++ bs sEHead) (bs sOne) := fun ⟨a, e⟩ => by
  have hl := win_length (hash_len one_ok) e
  have hn : (([] ++ bs sHead) ++ bs sEHead).length = 63 := by decide +kernel
  exact head_out a (by omega) e
theorem planted {L : List ByteArray} {S : List UInt8} (hL : Sorted L) (hm : ∀ y, y ∈ L ↔ y ∈ [sOne, sTwo] ∧ Occ S (bs y)) (ho : Occ S (bs sOne)) : L.length - 1 ≤ 1 ∧ L[0]? = some sOne := by
  by_cases h2 : Occ S (bs sTwo)
  · have : L = [sOne, sTwo] := sorted_ext hL (List.pairwise_cons.2 ⟨fun y hy => by rw [List.mem_singleton] at hy; rw [hy]; exact one_lt_two, List.pairwise_singleton _ _⟩) (fun y => by
      rw [hm y]
      constructor
      · exact fun h => h.1
      · intro h
        refine ⟨h, ?_⟩
        simp only [List.mem_cons, List.not_mem_nil, or_false] at h
        rcases h with rfl | rfl
        · exact ho
        · exact h2)
    subst this
    exact ⟨by decide, rfl⟩
  · have : L = [sOne] := sorted_ext hL (List.pairwise_singleton _ _) (fun y => by
      rw [hm y]
      constructor
      · rintro ⟨h, k⟩
        simp only [List.mem_cons, List.not_mem_nil, or_false] at h
        rcases h with rfl | rfl
        · simp
        · exact absurd k h2
      · intro h
        rw [List.mem_singleton] at h
        subst h
        exact ⟨by simp, ho⟩)
    subst this
    exact ⟨by decide, rfl⟩
/-- New over a row of one's own, as the walk meets it. -/
theorem new_own (hs : List ByteArray) (n : Nat) (hn : n = hs.length) (hz : ∀ h ∈ hs, h.size ≤ 140737488351232) (hl : n ≤ 1048577) (hw : wantedL hs = 0) (W : World) (g : Nat) (hq : SQ W g n hs) :
    Calls Try.prog 13 #[.slice (some ⟨g, 0, none⟩) n n] W fun e w' => ∃ base b, W.heap.size ≤ base ∧ e = .returned (.tuple #[.pointer (some ⟨b, 0, none⟩), .int .i64 0]) ∧ Scn w' base b hs [] ∧ Below W.heap.size W w' := by
  subst hn
  refine (scn_new W (some ⟨g, 0, none⟩) hs.length hs hq.all (Nat.le_refl _) hz hl hw).mono ?_
  rintro e w' ⟨rfl, h, hb⟩
  exact ⟨_, _, Nat.le_refl _, rfl, h, hb⟩
set_option maxRecDepth 100000 in
set_option maxHeartbeats 8000000 in
theorem planted_true (w : World) (m : Int) (hm : w.cell? ⟨0, 0, none⟩ = some (.int .i64 m)) (x0 x1 : ByteArray) (A2 : Option Addr) (c2 : Nat) (xs2 : List Int) (hC2 : Kd.C (Kd.int .i64) w A2 xs2.length xs2) (hc2 : xs2.length ≤ c2) (h0 : x0.size ≤ 1048576) (h1 : x1.size ≤ 1048576) (hn2 : xs2.length ≤ 1048576) (hz2 : ∀ y ∈ xs2, (Lit.int .i64 y).wf = true) :
    Calls Try.prog 4 #[.string x0, .string x1, .slice A2 xs2.length c2] w fun e w' => e = .returned (.bool true) ∧ Below w.heap.size w w' := by
  have hz := mx_pos hm
  have CA := Aside0.mk (awake_calls w m hm)
  have HC2 := Aside0.mk hC2
  have HZ2 := Aside0.mk hz2
  have CN := Aside0.mk (new_own [sOne, sTwo] 2 rfl (fun h hh => by simp only [List.mem_cons, List.not_mem_nil, or_false] at hh; rcases hh with rfl | rfl <;> decide) (by decide) wanted_12)
  have CN1 := Aside0.mk (new_own [sOne] 1 rfl (fun h hh => by rw [List.mem_singleton] at hh; rw [hh]; decide) (by decide) wanted_1)
  obtain ⟨T, hT⟩ : ∃ T, x0 ++ sOne ++ x1 = T := ⟨_, rfl⟩
  have hbT : bs T = bs x0 ++ bs sOne ++ bs x1 := by rw [← hT, bs_append, bs_append]
  have hTs : T.size = x0.size + 32 + x1.size := by
    rw [size_bs, hbT, List.length_append, List.length_append, ← size_bs, ← size_bs, ← size_bs]
    rfl
  have HO := Aside0.mk (show Occ (bs T) (bs sOne) from ⟨x0.size, by
    rw [hbT, List.append_assoc, size_bs, List.drop_append_of_le_length (Nat.le_refl _), List.drop_length, List.nil_append, List.take_append_of_le_length (by decide)]
    decide +kernel⟩)
  have hcat1 : (9223372036854775807 < x0.size + 32) = False := eq_false (by omega)
  have hcat2 : (9223372036854775807 < x0.size + 32 + x1.size) = False := eq_false (by omega)
  have hsz : (x0 ++ sOne).size = x0.size + 32 := by rw [ByteArray.size_append]; rfl
  have hmx : maxLen = 9223372036854775807 := rfl
  have hX : T.size ≤ maxLen := by omega
  have HX := Aside0.mk hX
  have hTb : T.size ≤ 2097184 := by omega
  unfold sOne at hT hsz
  clear hm hC2 hz2 hX hmx hbT hTs
  go_enter Try.func4, Try.ntmps4
  go_wp2_with (first
    | (go_at_call 9; ((with_reducible refine CA.out.mono ?_)); rintro e w1 ⟨rfl, hb⟩; have HB1 := Aside0.mk hb; clear hb)
    | (go_at_call 13; change Calls _ _ _ (w1.alloc (.cells #[.string sOne, .string sTwo] 9)) _; have hba := below_alloc (Below.refl w1.heap.size w1) (.cells #[.string sOne, .string sTwo] 9); have hq : SQ (w1.alloc (.cells #[.string sOne, .string sTwo] 9)) w1.heap.size 2 [sOne, sTwo] := ⟨⟨_, World.alloc_heap_new w1 _, rfl, rfl⟩, Nat.le_refl _, by decide⟩; generalize w1.alloc (.cells #[.string sOne, .string sTwo] 9) = w2 at hba hq ⊢; have HB2 := Aside0.mk (HB1.out.trans (hba.mono HB1.out.size)); ((with_reducible refine (CN.out w2 _ hq).mono ?_)); rintro e w3 ⟨bs3, b3, hle, rfl, hs, hb⟩; have HLE := Aside0.mk (Nat.le_trans HB2.out.size hle); have HS3 := Aside0.mk hs; have HB3 := Aside0.mk (HB2.out.trans (hb.mono HB2.out.size)); clear hs hb hba hq hle))
  have HS0 := Aside0.mk (show Scn w3 bs3 b3 [sOne, sTwo] ((bs T).take 0) from HS3.out)
  clear hT hsz hcat1 hcat2
  go_loopg [10, 35] xs2.length (fun g v10 v35 wx => ∃ (i a : Nat), i + g = xs2.length ∧ a ≤ T.size ∧ v10 = .int .i64 (a : Int) ∧ v35 = .int .i64 (i : Int) ∧ Aside0 (Scn wx bs3 b3 [sOne, sTwo] ((bs T).take a)) ∧ Aside0 (Below w.heap.size w wx))
  case atStart => exact ⟨0, 0, by omega, Nat.zero_le _, rfl, rfl, HS0, HB3⟩
  case round =>
    obtain ⟨i, a, hig, ha, rfl, rfl, HS, HB⟩ := hrel
    cases gk with
    | succ g =>
      have hi : i < xs2.length := by omega
      have p1 : 0 ≤ (i : Int) := by omega
      have p2 : (i : Int) < (xs2.length : Int) := by omega
      obtain ⟨ad, rfl, hl0⟩ := Kd.at_int (k := .i64) HC2.out (i : Int) p1 p2
      have hyw := HZ2.out xs2[i] (List.getElem_mem hi)
      have ez : rdOf (0 : Int) xs2 (i : Int) = xs2[i] := by
        unfold rdOf
        rw [Int.toNat_natCast, List.getD_eq_getElem?_getD, List.getElem?_eq_getElem hi]
        rfl
      replace hl0 : w.cell? (ad.add i) = some (.int .i64 xs2[i]) := by rw [← ez]; exact hl0
      replace hl0 := (Fr.of_below (S := fun _ => False) HB.out).cell hl0 (fun h => h)
      obtain ⟨y, hy⟩ : ∃ y, xs2[i] = y := ⟨_, rfl⟩
      rw [hy] at hl0 hyw
      clear ez hy
      by_cases q1 : y < 0
      · have d1 : decide (y < 0) = true := decide_eq_true q1
        obtain ⟨Y, hY⟩ : ∃ Y, T.extract a (a + (T.size - a)) = Y := ⟨_, rfl⟩
        have hbY : (bs T).take a ++ bs Y = (bs T).take (a + (T.size - a)) := by rw [← hY, bs_extract, Nat.add_sub_cancel_left, List.take_add]
        have hYs : Y.size ≤ T.size := by rw [← hY, ByteArray.size_extract]; omega
        have hYm : Y.size ≤ maxLen := by have : maxLen = 9223372036854775807 := rfl; omega
        have R1 := fun (W : World) => run_cut W T (a : Int) ((a : Int) + ((T.size : Int) - (a : Int))) (by omega) (by omega) (by omega)
        have t1 : ((a : Int) + ((T.size : Int) - (a : Int))).toNat = a + (T.size - a) := by omega
        simp only [Int.toNat_natCast, t1, hY] at R1
        have HYS := Aside0.mk hYs
        have HYM := Aside0.mk hYm
        have HBY := Aside0.mk hbY
        clear t1 hY hYs hYm hbY
        go_wp2_with (first
          | ((with_reducible refine gate_dst (N := 60) rfl ?_); refine wpList_conv rfl (N := 60) rfl (.tmp 59) rfl Y rfl HYM.out ?_; intro g4 c4 w4 _ hc4 hcl4 hg4 hb4; have HC4 := Aside0.mk hc4; have HCL := Aside0.mk hcl4; have HS4 := Aside0.mk (HS.out.less hb4); have HB4 := Aside0.mk (HB.out.trans (hb4.mono HB.out.size)); have HNE := Aside0.mk (show g4 ≠ b3 from by have := HS.out.lies.2; omega); clear hc4 hcl4 hg4 hb4)
          | (go_at_call 14; ((with_reducible refine (scn_feed w4 _ _ [sOne, sTwo] ((bs T).take a) HS4.out g4 0 Y.size c4 (bs Y) (size_bs Y) HC4.out HCL.out HNE.out (by rw [← size_bs]; have := HYS.out; omega) (by rw [List.length_take]; omega)).mono ?_)); rintro e w5 ⟨rfl, hs, hb⟩; rw [HBY.out] at hs; have HS5 := Aside0.mk hs; have HB5 := Aside0.mk (HB4.out.trans (hb.mono HLE.out)); clear hs hb))
        go_roundg g
        case measure => omega
        case rel => exact ⟨i + 1, a + (T.size - a), by omega, by omega, by go_num, by go_num, HS5, HB5⟩
      · have d1 : decide (y < 0) = false := decide_eq_false q1
        by_cases q2 : (T.size : Int) - (a : Int) < y
        · have d2 : decide ((T.size : Int) - (a : Int) < y) = true := decide_eq_true q2
          obtain ⟨Y, hY⟩ : ∃ Y, T.extract a (a + (T.size - a)) = Y := ⟨_, rfl⟩
          have hbY : (bs T).take a ++ bs Y = (bs T).take (a + (T.size - a)) := by rw [← hY, bs_extract, Nat.add_sub_cancel_left, List.take_add]
          have hYs : Y.size ≤ T.size := by rw [← hY, ByteArray.size_extract]; omega
          have hYm : Y.size ≤ maxLen := by have : maxLen = 9223372036854775807 := rfl; omega
          have R1 := fun (W : World) => run_cut W T (a : Int) ((a : Int) + ((T.size : Int) - (a : Int))) (by omega) (by omega) (by omega)
          have t1 : ((a : Int) + ((T.size : Int) - (a : Int))).toNat = a + (T.size - a) := by omega
          simp only [Int.toNat_natCast, t1, hY] at R1
          have HYS := Aside0.mk hYs
          have HYM := Aside0.mk hYm
          have HBY := Aside0.mk hbY
          clear t1 hY hYs hYm hbY
          go_wp2_with (first
            | ((with_reducible refine gate_dst (N := 60) rfl ?_); refine wpList_conv rfl (N := 60) rfl (.tmp 59) rfl Y rfl HYM.out ?_; intro g4 c4 w4 _ hc4 hcl4 hg4 hb4; have HC4 := Aside0.mk hc4; have HCL := Aside0.mk hcl4; have HS4 := Aside0.mk (HS.out.less hb4); have HB4 := Aside0.mk (HB.out.trans (hb4.mono HB.out.size)); have HNE := Aside0.mk (show g4 ≠ b3 from by have := HS.out.lies.2; omega); clear hc4 hcl4 hg4 hb4)
            | (go_at_call 14; ((with_reducible refine (scn_feed w4 _ _ [sOne, sTwo] ((bs T).take a) HS4.out g4 0 Y.size c4 (bs Y) (size_bs Y) HC4.out HCL.out HNE.out (by rw [← size_bs]; have := HYS.out; omega) (by rw [List.length_take]; omega)).mono ?_)); rintro e w5 ⟨rfl, hs, hb⟩; rw [HBY.out] at hs; have HS5 := Aside0.mk hs; have HB5 := Aside0.mk (HB4.out.trans (hb.mono HLE.out)); clear hs hb))
          go_roundg g
          case measure => omega
          case rel => exact ⟨i + 1, a + (T.size - a), by omega, by omega, by go_num, by go_num, HS5, HB5⟩
        · have d2 : decide ((T.size : Int) - (a : Int) < y) = false := decide_eq_false q2
          obtain ⟨n, rfl⟩ : ∃ n : Nat, y = (n : Int) := ⟨y.toNat, by omega⟩
          obtain ⟨Y, hY⟩ : ∃ Y, T.extract a (a + n) = Y := ⟨_, rfl⟩
          have hbY : (bs T).take a ++ bs Y = (bs T).take (a + n) := by rw [← hY, bs_extract, Nat.add_sub_cancel_left, List.take_add]
          have hYs : Y.size ≤ T.size := by rw [← hY, ByteArray.size_extract]; omega
          have hYm : Y.size ≤ maxLen := by have : maxLen = 9223372036854775807 := rfl; omega
          have R1 := fun (W : World) => run_cut W T (a : Int) ((a : Int) + ((n : Int))) (by omega) (by omega) (by omega)
          have t1 : ((a : Int) + ((n : Int))).toNat = a + n := by omega
          simp only [Int.toNat_natCast, t1, hY] at R1
          have HYS := Aside0.mk hYs
          have HYM := Aside0.mk hYm
          have HBY := Aside0.mk hbY
          clear t1 hY hYs hYm hbY
          go_wp2_with (first
            | ((with_reducible refine gate_dst (N := 60) rfl ?_); refine wpList_conv rfl (N := 60) rfl (.tmp 59) rfl Y rfl HYM.out ?_; intro g4 c4 w4 _ hc4 hcl4 hg4 hb4; have HC4 := Aside0.mk hc4; have HCL := Aside0.mk hcl4; have HS4 := Aside0.mk (HS.out.less hb4); have HB4 := Aside0.mk (HB.out.trans (hb4.mono HB.out.size)); have HNE := Aside0.mk (show g4 ≠ b3 from by have := HS.out.lies.2; omega); clear hc4 hcl4 hg4 hb4)
            | (go_at_call 14; ((with_reducible refine (scn_feed w4 _ _ [sOne, sTwo] ((bs T).take a) HS4.out g4 0 Y.size c4 (bs Y) (size_bs Y) HC4.out HCL.out HNE.out (by rw [← size_bs]; have := HYS.out; omega) (by rw [List.length_take]; omega)).mono ?_)); rintro e w5 ⟨rfl, hs, hb⟩; rw [HBY.out] at hs; have HS5 := Aside0.mk hs; have HB5 := Aside0.mk (HB4.out.trans (hb.mono HLE.out)); clear hs hb))
          go_roundg g
          case measure => omega
          case rel => exact ⟨i + 1, a + n, by omega, by omega, by go_num, by go_num, HS5, HB5⟩
    | zero =>
      obtain rfl : i = xs2.length := by omega
      have R1 := fun (W : World) => run_from W T (a : Int) (by omega) (by omega)
      obtain ⟨Y, hY⟩ : ∃ Y, T.extract a T.size = Y := ⟨_, rfl⟩
      have hbY : (bs T).take a ++ bs Y = bs T := by rw [← hY, bs_extract, List.take_of_length_le (l := (bs T).drop a) (by rw [List.length_drop, ← size_bs]; omega), List.take_append_drop]
      have hYs : Y.size ≤ T.size := by rw [← hY, ByteArray.size_extract]; omega
      have hYm : Y.size ≤ maxLen := by have : maxLen = 9223372036854775807 := rfl; omega
      simp only [Int.toNat_natCast, hY] at R1
      have HYS := Aside0.mk hYs
      have HYM := Aside0.mk hYm
      have HBY := Aside0.mk hbY
      clear hY hYs hYm hbY
      go_wp2_with (first
        | ((with_reducible refine gate_dst (N := 70) rfl ?_); refine wpList_conv rfl (N := 70) rfl (.tmp 69) rfl Y rfl HYM.out ?_; intro g4 c4 w4 _ hc4 hcl4 hg4 hb4; have HC4 := Aside0.mk hc4; have HCL := Aside0.mk hcl4; have HS4 := Aside0.mk (HS.out.less hb4); have HB4 := Aside0.mk (HB.out.trans (hb4.mono HB.out.size)); have HNE := Aside0.mk (show g4 ≠ b3 from by have := HS.out.lies.2; omega); clear hc4 hcl4 hg4 hb4)
        | (go_at_call 14; ((with_reducible refine (scn_feed w4 _ _ [sOne, sTwo] ((bs T).take a) HS4.out g4 0 Y.size c4 (bs Y) (size_bs Y) HC4.out HCL.out HNE.out (by rw [← size_bs]; have := HYS.out; omega) (by rw [List.length_take]; omega)).mono ?_)); rintro e w5 ⟨rfl, hs, hb⟩; rw [HBY.out] at hs; have HS5 := Aside0.mk hs; have HB5 := Aside0.mk (HB4.out.trans (hb.mono HLE.out)); clear hs hb))
      refine (scn_found w5 _ _ _ _ HS5.out).mono ?_
      rintro e w6 ⟨v6, L, rfl, hr6, hb6, hso, hmem⟩
      obtain ⟨l1, l2⟩ := planted hso hmem HO.out
      obtain ⟨A6, c6, rfl, hc6, hC6⟩ := Kd.R_reads hr6
      obtain ⟨n, hn⟩ : ∃ n, L.length = n := ⟨_, rfl⟩
      have l0 : 0 < L.length := (List.getElem?_eq_some_iff.1 l2).1
      obtain ⟨ad6, rfl, hl6⟩ := Kd.at_string hC6 (0 : Int) (by decide) (by omega)
      have hr0 : rdOf ByteArray.empty L (0 : Int) = sOne := by
        unfold rdOf
        rw [show (0 : Int).toNat = 0 from rfl, List.getD_eq_getElem?_getD, l2]
        rfl
      replace hl6 : w6.cell? ad6 = some (.string sOne) := by have := hl6; rwa [show (0 : Int).toNat = 0 from rfl, Addr.add_zero', hr0] at this
      have HB6 := Aside0.mk (HB5.out.trans (hb6.mono HB5.out.size))
      rw [hn] at l0 l1 ⊢
      have d1 : decide ((n : Int) < 1) = false := decide_eq_false (by omega)
      have d2 : decide (n < 1) = false := decide_eq_false (by omega)
      have d3 : decide ((2 : Int) < (n : Int)) = false := decide_eq_false (by omega)
      have d4 : decide (2 < n) = false := decide_eq_false (by omega)
      have d5 : (n = 0) = False := eq_false (by omega)
      have d6 : (0 < n) = True := eq_true (by omega)
      have rh := run_head
      have eh := e_head
      have H7 : sHead.size ≤ maxLen := by decide
      have H8 : sEHead.size ≤ maxLen := by decide
      have H7 := Aside0.mk H7
      have H8 := Aside0.mk H8
      unfold sOne at hl6
      clear hr6 hb6 hso hmem hC6 hc6 hr0 l2 hn
      go_wp2_with (first
        | (go_at_call 13; change Calls _ _ _ (w6.alloc (.cells #[.string sOne] 9)) _; have hba := below_alloc (Below.refl w6.heap.size w6) (.cells #[.string sOne] 9); have hq : SQ (w6.alloc (.cells #[.string sOne] 9)) w6.heap.size 1 [sOne] := ⟨⟨_, World.alloc_heap_new w6 _, rfl, rfl⟩, Nat.le_refl _, by decide⟩; generalize w6.alloc (.cells #[.string sOne] 9) = w7 at hba hq ⊢; have HB7 := Aside0.mk (HB6.out.trans (hba.mono HB6.out.size)); ((with_reducible refine (CN1.out w7 _ hq).mono ?_)); rintro e w8 ⟨bs8, b8, hle, rfl, hs, hb⟩; have HLE8 := Aside0.mk (Nat.le_trans HB7.out.size hle); have HS8 := Aside0.mk hs; have HB8 := Aside0.mk (HB7.out.trans (hb.mono HB7.out.size)); clear hs hb hba hq hle)
        | ((with_reducible refine gate_dst (N := 101) rfl ?_); refine wpList_conv rfl (N := 101) rfl (.tmp 100) rfl sHead rfl H7.out ?_; intro g9 c9 w9 _ hc9 hcl9 hg9 hb9; have HC9 := Aside0.mk hc9; have HCL9 := Aside0.mk hcl9; have HS9 := Aside0.mk (HS8.out.less hb9); have HB9 := Aside0.mk (HB8.out.trans (hb9.mono HB8.out.size)); have HNE9 := Aside0.mk (show g9 ≠ b8 from by have := HS8.out.lies.2; omega); clear hc9 hcl9 hg9 hb9)
        | ((with_reducible refine gate_dst (N := 106) rfl ?_); refine wpList_conv rfl (N := 106) rfl (.tmp 105) rfl sEHead rfl H8.out ?_; intro g11 c11 w11 _ hc11 hcl11 hg11 hb11; have HC11 := Aside0.mk hc11; have HCL11 := Aside0.mk hcl11; have HS11 := Aside0.mk (HS10.out.less hb11); have HB11 := Aside0.mk (HB10.out.trans (hb11.mono HB10.out.size)); have HNE11 := Aside0.mk (show g11 ≠ b8 from by have := HS10.out.lies.2; omega); clear hc11 hcl11 hg11 hb11)
        | (go_at_call 14; first | ((with_reducible refine (scn_feed w9 _ _ [sOne] [] HS9.out g9 0 sHead.size c9 (bs sHead) (size_bs sHead) HC9.out HCL9.out HNE9.out (by decide) (by decide)).mono ?_); rintro e w10 ⟨rfl, hs, hb⟩; have HS10 := Aside0.mk hs; have HB10 := Aside0.mk (HB9.out.trans (hb.mono HLE8.out)); clear hs hb) | ((with_reducible refine (scn_feed w11 _ _ [sOne] _ HS11.out g11 0 sEHead.size c11 (bs sEHead) (size_bs sEHead) HC11.out HCL11.out HNE11.out (by decide) (by decide)).mono ?_); rintro e w12 ⟨rfl, hs, hb⟩; have HS12 := Aside0.mk hs; have HB12 := Aside0.mk (HB11.out.trans (hb.mono HLE8.out)); clear hs hb))
        | (go_at_call 15; ((with_reducible refine (scn_found w12 _ _ _ _ HS12.out).mono ?_)); rintro e w13 ⟨v, L, rfl, hr, hb, hso, hm⟩; obtain rfl := found_none hm head_not; obtain ⟨A3, c3, rfl, hc3, hC3⟩ := Kd.R_reads hr; have HB13 := Aside0.mk (HB12.out.trans (hb.mono HB12.out.size)); clear hr hb hso hm hc3 hC3))
      go_ret
      exact ⟨rfl, HB13.out⟩
end Go.Proofs.Ytbllmpfdhcbkpaa.Scan
/- Rows of bytes, all of them: make, copy, and a row filled and written over. -/
namespace Go.Proofs.Ytbllmpfdhcbkpaa.Scan
open Go.Shelf Go.RowKit Go.Proofs.Ytbllmpfdhcbkpaa.Q Go.Proofs.Ytbllmpfdhcbkpaa.Tail Go.Proofs.YtbllmpfdhcbkpaaW.PrintWords Go.Proofs.YtbllmpfdhcbkpaaW.PrintLast Go.Proofs.YtbllmpfdhcbkpaaW.PrintMore Go.Proofs.Ytbllmpfdhcbkpaa.Bytes
set_option linter.unusedVariables false
set_option linter.unusedSimpArgs false
theorem cell3 {w1 : World} {g : Nat} {cs : Array Value} {t : TypeId} (h : w1.heap[g]? = some (.cells cs t (0, 0))) (i : Nat) : w1.cell? ⟨g, i, none⟩ = cs[i]? := cell_of_row w1 g i _ _ _ h
theorem fro3 {w1 : World} {g : Nat} {cs : Array Value} {t : TypeId} (h : w1.heap[g]? = some (.cells cs t (0, 0))) (i : Nat) : w1.frozen? ⟨g, i, none⟩ = false := by simp [World.frozen?, h]
theorem bt_get (s : ByteArray) (k : Nat) (h : k < s.size) : bt s (k : Int) = ((s[k]'h).toNat : Int) := by
  rw [bt_bs, Int.toNat_natCast]
  have hl : k < (bs s).length := by rw [← size_bs]; exact h
  rw [List.getD_eq_getElem?_getD, List.getElem?_eq_getElem hl]
  rfl
/-- A row of bytes, all of it. -/
def QB (W : World) (g : Nat) (xs : List Int) : Prop := W.heap[g]? = some (.cells (nums .u8 xs).toArray 5 (0, 0))
section
variable {W W' : World} {g : Nat} {xs : List Int}
theorem QB.lt (h : QB W g xs) : g < W.heap.size := (Array.getElem?_eq_some_iff.1 h).1
theorem QB.cell (h : QB W g xs) (i : Nat) (x : Int) (hx : xs[i]? = some x) : W.cell? ⟨g, i, none⟩ = some (.int .u8 x) := by
  rw [cell3 h i]
  simp [nums, hx]
theorem QB.fro (h : QB W g xs) (i : Nat) : W.frozen? ⟨g, i, none⟩ = false := fro3 h i
theorem QB.set (h : QB W g xs) (i : Nat) (x : Int) : QB (W.setCell ⟨g, i, none⟩ (.int .u8 x)) g (xs.set i x) := by
  have h0 : W.heap[g]? = some (.cells (nums .u8 xs).toArray 5 (0, 0)) := h
  have : (W.setCell ⟨g, i, none⟩ (.int .u8 x)).heap[g]? = some (.cells ((nums .u8 xs).toArray.setIfInBounds i (.int .u8 x)) 5 (0, 0)) := by
    simp [World.setCell, Array.getElem?_modify, h0]
  unfold QB
  rw [this]
  congr 2
  simp [nums, List.map_set]
theorem QB.reads (h : QB W g xs) (n : Nat) (hn : n ≤ xs.length) (hm : n ≤ 9223372036854775807) : ReadsInt W .u8 (some ⟨g, 0, none⟩) n (xs.take n) := by
  refine ⟨by rw [List.length_take]; omega, hm, fun _ => ⟨_, rfl, fun j hj => ?_⟩⟩
  have hadd : (⟨g, 0, none⟩ : Addr).add j = ⟨g, j, none⟩ := by unfold Addr.add; split <;> simp_all
  have hjx : xs[j]? = some (xs[j]'(by omega)) := List.getElem?_eq_getElem (by omega)
  rw [hadd, h.cell j _ hjx]
  simp [List.getD_eq_getElem?_getD, List.getElem?_take, hj, hjx]
theorem QB.kept (h : QB W g xs) (e : W'.heap[g]? = W.heap[g]?) : QB W' g xs := e.trans h
end
section
variable {P : Program} {ops : Array Oper} {rest : List Oper} {o : Oper} {a : Act} {Q : Exit → Act → World → Prop}
/-- make([]byte, n). -/
theorem make_raw {W : World} (e : Nat) (hgd : o.guard = none) {N : Tmp} (hd : o.dst = some N) (t : TypeId) (x : Operand) (ho : o.op = .makeSlice t x x) (n : Nat) (hx : a.eval x = .int .i64 (n : Int))
    (ht : P.underlying t = some (.slice e)) (hinfo : (P.info? e).map (fun i => (i.zero, i.size, i.bytes)) = some (some (.int .u8 0), 1, 1)) (hl : n ≤ 140737488355328) (he : e = 5)
    (h : ∀ w1, QB w1 W.heap.size (List.replicate n 0) → Below W.heap.size W w1 → wpList P ops Q rest (a.put o.dst (.slice (some ⟨W.heap.size, 0, none⟩) n n)) w1) : wpList P ops Q (o :: rest) a W := by
  obtain ⟨i0, hi, hzz⟩ := Option.map_eq_some_iff.1 hinfo
  simp only [Prod.mk.injEq] at hzz
  obtain ⟨hz0, hz1, hz2⟩ := hzz
  have hr := run_make (P := P) W t e i0 (.int .u8 0) ht hi hz0 .i64 .i64 (n : Int) (n : Int) (by omega) (by omega)
    (by
      have h3 : ((i0.bytes * n : Nat) : Int) ≤ 281474976710656 := by rw [hz2, Nat.one_mul]; omega
      rwa [Int.natCast_mul] at h3) (by omega)
  simp only [Int.toNat_natCast] at hr
  have hrun : (execOp a.eval o).run P W = .ok (.value (.slice (some ⟨W.heap.size, 0, none⟩) n n)) (W.alloc (.cells (madeCells (Value.int .u8 0).cells (n * i0.size)) e)) := by
    simp [execOp, ho, hx, hr]
  refine Kd.event_run hgd hrun (h _ ?_ ((Below.refl _ _).alloc (Nat.le_refl _) _))
  unfold QB
  rw [heap_alloc_new, hz1, Nat.mul_one, he]
  congr 2
  apply Array.ext'
  have hc : (Value.int .u8 0).cells = #[Value.int .u8 0] := rfl
  rw [hc]
  simp only [madeCells, Array.toList_map, Array.toList_range, nums, List.map_replicate]
  apply List.ext_getElem
  · simp
  · intro j h1 h2
    simp [Nat.mod_one]
/-- copy(q, s), s a string that has room in q. -/
theorem copy_raw {W : World} (e : Nat) (hgd : o.guard = none) (x y : Operand) (t t' : TypeId) (ho : o.op = .call { callee := .builtin .copy, args := #[x, y], argTypes := #[t, t'] })
    (g N c : Nat) (xs : List Int) (s : ByteArray) (hx : a.eval x = .slice (some ⟨g, 0, none⟩) N c) (hy : a.eval y = .string s) (ht : P.underlying t = some (.slice e)) (hinfo : (P.info? e).map (·.size) = some 1)
    (hq : QB W g xs) (hl : xs.length = N) (hs : s.size ≤ N)
    (h : ∀ w1, QB w1 g (numsOf s ++ xs.drop s.size) → (∀ k, k ≠ g → w1.heap[k]? = W.heap[k]?) → w1.heap.size = W.heap.size → (∀ B w0, B ≤ g → Below B w0 W → Below B w0 w1) → wpList P ops Q rest (a.put o.dst (.int .i64 (s.size : Int))) w1) : wpList P ops Q (o :: rest) a W := by
  have hq0 : W.heap[g]? = some (.cells (nums .u8 xs).toArray 5 (0, 0)) := hq
  have hf := Lib.run_firstCells_string (P := P) W 1 s
  have hst := run_storeCells_at P g 0 5 (Lib.strCells s) 0 (nums .u8 xs).toArray W hq0 (by rw [Lib.strCells_length]; simp [nums]; omega) (Lib.strCells_oneCell s)
  obtain ⟨i, hi, hsz⟩ := Option.map_eq_some_iff.1 hinfo
  have hmin : Nat.min s.size N = s.size := Nat.min_eq_left hs
  have hrun : (Builtin.copy_ #[t, t'] o.type #[.slice (some ⟨g, 0, none⟩) N c, .string s]).run P W = .ok (goInt (s.size : Int)) (W.setRow g (Lib.strCells s ++ (nums .u8 xs).drop s.size).toArray) := by
    simp only [Nat.add_zero, Lib.strCells_length, Nat.zero_add, List.take_zero, List.nil_append] at hst
    simp [Builtin.copy_, run_underlying ht, Builtin.lenOf, sizeOf, typeInfo, hi, hsz, hmin, hf, hst]
  refine wpList_plain hgd fun K hK => ?_
  unfold Oper.wp execOp
  simp only [ho, resolve, invoke, builtin, Sem.run_bind, Sem.run_pure, Result.andThen_ok, List.map_toArray, List.map_cons, List.map_nil, hx, hy, hrun]
  refine hK _ _ (h _ ?_ (fun k hk => setRow_other W g k _ hk) (by simp) (fun B w0 hB hb => below_setRow hb hB _))
  unfold QB
  rw [setRow_heap W g _ _ _ _ hq0]
  congr 2
  simp [nums, numsOf, Lib.strCells, List.map_drop]
end
def fillX (T : ByteArray) (m : Int) (j : Nat) : List Int := numsOf T ++ (List.replicate j m ++ List.replicate (80 - j) 0)
theorem fill_len (T : ByteArray) (m : Int) (j : Nat) (h : j ≤ 80) : (fillX T m j).length = T.size + 80 := by
  unfold fillX
  rw [List.length_append, numsOf_len, List.length_append, List.length_replicate, List.length_replicate]
  omega
theorem fill_step (T : ByteArray) (m : Int) (j : Nat) (h : j < 80) : (fillX T m j).set (T.size + j) m = fillX T m (j + 1) := by
  unfold fillX
  have e : 80 - j = (80 - (j + 1)) + 1 := by omega
  rw [List.set_append, if_neg (by rw [numsOf_len]; omega), numsOf_len, Nat.add_sub_cancel_left, List.set_append, if_neg (by rw [List.length_replicate]; omega), List.length_replicate, Nat.sub_self, e, List.replicate_succ, List.set_cons_zero, List.replicate_succ' (n := j), List.append_assoc]
  rfl
/-- The row once i of its bytes are written over. -/
def clrX (T : ByteArray) (m c : Int) (i : Nat) : List Int := List.replicate i c ++ (fillX T m 80).drop i
theorem clr_step (T : ByteArray) (m c : Int) (i : Nat) (h : i < T.size + 80) : (clrX T m c i).set i c = clrX T m c (i + 1) := by
  unfold clrX
  have hl : i < (fillX T m 80).length := by rw [fill_len T m 80 (Nat.le_refl _)]; exact h
  rw [List.set_append, if_neg (by rw [List.length_replicate]; omega), List.length_replicate, Nat.sub_self, List.drop_eq_getElem_cons hl, List.set_cons_zero, List.replicate_succ' (n := i), List.append_assoc]
  rfl
theorem clr_at (T : ByteArray) (m c : Int) (i : Nat) (h : i < T.size + 80) : (clrX T m c i)[i]? = some (if i < T.size then bt T (i : Int) else m) := by
  unfold clrX
  have hl : i < (fillX T m 80).length := by rw [fill_len T m 80 (Nat.le_refl _)]; exact h
  rw [List.getElem?_append_right (by rw [List.length_replicate]; exact Nat.le_refl _), List.length_replicate, Nat.sub_self, List.getElem?_drop, Nat.add_zero]
  unfold fillX
  by_cases hi : i < T.size
  · rw [if_pos hi, List.getElem?_append_left (by rw [numsOf_len]; exact hi)]
    have e1 : (numsOf T)[i]? = some ((T.data.toList[i]'(by rw [Array.length_toList]; exact hi)).toNat : Int) := by
      unfold numsOf
      rw [List.getElem?_map, List.getElem?_eq_getElem (by rw [Array.length_toList]; exact hi)]
      rfl
    rw [e1, bt_bs, Int.toNat_natCast]
    unfold bs
    rw [List.getD_eq_getElem?_getD, List.getElem?_eq_getElem (by rw [Array.length_toList]; exact hi)]
    rfl
  · rw [if_neg hi, List.getElem?_append_right (by rw [numsOf_len]; omega), numsOf_len, Nat.sub_self, List.replicate_zero, List.append_nil, List.getElem?_replicate, if_pos (by omega)]
theorem clr_zero (T : ByteArray) (m c : Int) : clrX T m c 0 = fillX T m 80 := by simp [clrX]
theorem fill_zero (T : ByteArray) (m : Int) : numsOf T ++ (List.replicate (T.size + 80) (0 : Int)).drop T.size = fillX T m 0 := by
  rw [List.drop_replicate, Nat.add_sub_cancel_left]
  simp [fillX]
theorem fill_take (T : ByteArray) (m : Int) (j : Nat) : (fillX T m j).take T.size = numsOf T := by
  unfold fillX
  conv => lhs; arg 1; rw [← numsOf_len T]
  rw [List.take_left]
end Go.Proofs.Ytbllmpfdhcbkpaa.Scan
/- A Scanner and a Rewriter beside each other, and blocks that are none of theirs. -/
namespace Go.Proofs.Ytbllmpfdhcbkpaa.Scan
open Go.Shelf Go.RowKit Go.Proofs.Ytbllmpfdhcbkpaa.Q Go.Proofs.Ytbllmpfdhcbkpaa.SpathPure Go.Proofs.Ytbllmpfdhcbkpaa.Rise Go.Proofs.YtbllmpfdhcbkpaaW.PrintWords Go.Proofs.YtbllmpfdhcbkpaaW.PrintLast Go.Proofs.YtbllmpfdhcbkpaaW.PrintMore Go.Proofs.Ytbllmpfdhcbkpaa.Bytes
set_option linter.unusedVariables false
set_option linter.unusedSimpArgs false
theorem Rw.lower {W : World} {base base' b : Nat} {vt vp : Value} {tl : List UInt8} {tk : Nat} {f t : ByteArray} {d : Nat} {pl : List Nat} {sh : Bool} (h : Rw W base b vt vp tl tk f t d pl sh) (hb : base' ≤ base) : Rw W base' b vt vp tl tk f t d pl sh :=
  ⟨h.lies, h.bt, r_less h.rp hb, h.nb, h.pb, h.tp, Nat.le_trans hb h.low, fun g hg => Nat.le_trans hb (h.lot g hg)⟩
theorem Rw.wlt {W : World} {base b : Nat} {vt vp : Value} {tl : List UInt8} {tk : Nat} {f t : ByteArray} {d : Nat} {pl : List Nat} {sh : Bool} (h : Rw W base b vt vp tl tk f t d pl sh) {g : Nat} (hg : g = b ∨ vp.ownBlock = some g) : base ≤ g ∧ g < W.heap.size := by
  rcases hg with rfl | hg
  · exact ⟨h.low, (Array.getElem?_eq_some_iff.1 h.lies).1⟩
  · rcases r_own h.rp with ⟨rfl, _⟩ | ⟨g', cap, cur, rfl, hb, hc⟩
    · cases hg
    · have : g' = g := by simpa [Value.ownBlock] using hg
      subst this
      exact ⟨hb, (Array.getElem?_eq_some_iff.1 hc).1⟩
theorem ScM.wlt {W : World} {base b bm n : Nat} {vt vs : Value} {tl : List UInt8} {tk : Nat} {D : DataW Unit} {seen : List Bool} (h : ScM W base b bm n vt vs tl tk D seen) {g : Nat} (hg : SB b bm vt vs g) : base ≤ g ∧ g < W.heap.size := by
  rcases hg with rfl | rfl | hg | hg
  · exact ⟨h.low, (Array.getElem?_eq_some_iff.1 h.lies).1⟩
  · obtain ⟨es, clock, hb, _⟩ := h.mp
    exact ⟨h.lom, (Array.getElem?_eq_some_iff.1 hb).1⟩
  · exact ⟨h.lot g hg, h.tlt g hg⟩
  · obtain ⟨h1, cur, h2⟩ := s_block h.rs hg
    exact ⟨h1, (Array.getElem?_eq_some_iff.1 h2).1⟩
/-- Both, and the blocks X beside them. -/
structure TwoM (W : World) (base b1 b2 : Nat) (X : Nat → Prop) (hashes : List ByteArray) (S1 : List UInt8) (f t : ByteArray) (S2 out : List UInt8) (bm n : Nat) (vt vs : Value) (D : DataW Unit) (Hs : List ByteArray) (seen : List Bool) (pl : List Nat) (ut up : Value) (tl : List UInt8) (d : Nat) : Prop where
  sc : ScM W base b1 bm n vt vs (keep S1) S1.length D seen
  nw : Nw hashes hashes.length D Hs
  sl : seen.length = Hs.length
  nl : n ≤ hashes.length
  hl : hashes.length ≤ 1048577
  oc : ∀ (k : Nat) (h : ByteArray), Hs[k]? = some h → (seen[k]? = some true ↔ Occ S1 (bs h))
  rw_ : Rw W base b2 ut up tl S2.length f t d pl false
  fd : Fed (bs f) (bs t) S2 out pl 0 tl d
  tll : tl.length < 32
  d1 : ∀ g, SB b1 bm vt vs g → ¬ (g = b2 ∨ up.ownBlock = some g)
  d2 : ∀ g, RB b2 ut up g → ¬ (g = b1 ∨ vs.ownBlock = some g)
  dx : ∀ g, X g → ¬ SB b1 bm vt vs g ∧ ¬ RB b2 ut up g
def Two (W : World) (base b1 b2 : Nat) (X : Nat → Prop) (hashes : List ByteArray) (S1 : List UInt8) (f t : ByteArray) (S2 out : List UInt8) : Prop :=
  ∃ bm n vt vs D Hs seen pl ut up tl d, TwoM W base b1 b2 X hashes S1 f t S2 out bm n vt vs D Hs seen pl ut up tl d
section
variable {W W2 : World} {base b1 b2 : Nat} {X Y : Nat → Prop} {hashes : List ByteArray} {S1 : List UInt8} {f t : ByteArray} {S2 out : List UInt8}
theorem Two.fr (h : Two W base b1 b2 X hashes S1 f t S2 out) (k : Fr X W W2) : Two W2 base b1 b2 X hashes S1 f t S2 out := by
  obtain ⟨bm, n, vt, vs, D, Hs, seen, pl, ut, up, tl, d, h⟩ := h
  exact ⟨bm, n, vt, vs, D, Hs, seen, pl, ut, up, tl, d, h.sc.fr k (fun g hg => (h.dx g hg).1), h.nw, h.sl, h.nl, h.hl, h.oc, h.rw_.fr k (fun g hg => (h.dx g hg).2), h.fd, h.tll, h.d1, h.d2, h.dx⟩
theorem Two.less (h : Two W base b1 b2 X hashes S1 f t S2 out) (k : Below W.heap.size W W2) : Two W2 base b1 b2 X hashes S1 f t S2 out := h.fr (Fr.of_below k)
theorem Two.only (h : Two W base b1 b2 X hashes S1 f t S2 out) (k : ∀ g, Y g → X g) : Two W base b1 b2 Y hashes S1 f t S2 out := by
  obtain ⟨bm, n, vt, vs, D, Hs, seen, pl, ut, up, tl, d, h⟩ := h
  exact ⟨bm, n, vt, vs, D, Hs, seen, pl, ut, up, tl, d, h.sc, h.nw, h.sl, h.nl, h.hl, h.oc, h.rw_, h.fd, h.tll, h.d1, h.d2, fun g hg => h.dx g (k g hg)⟩
theorem Two.low (h : Two W base b1 b2 X hashes S1 f t S2 out) : base ≤ b1 ∧ b1 < W.heap.size ∧ base ≤ b2 ∧ b2 < W.heap.size := by
  obtain ⟨bm, n, vt, vs, D, Hs, seen, pl, ut, up, tl, d, h⟩ := h
  have := h.sc.wlt (Or.inl rfl)
  have := h.rw_.wlt (Or.inl rfl)
  omega
theorem Two.told (h : Two W base b1 b2 X hashes S1 f t S2 out) : out.length ≤ S2.length := by
  obtain ⟨bm, n, vt, vs, D, Hs, seen, pl, ut, up, tl, d, h⟩ := h
  have := h.fd.len
  omega
end
/-- NewRewriter beside a new Scanner: what is older than they is none of theirs, nor is what comes. -/
theorem two_new (w : World) (base b1 : Nat) (hashes : List ByteArray) (f t : ByteArray) (h : Scn w base b1 hashes []) (hb : base ≤ w.heap.size) (hf : f.size ≤ 140737488351232) (ht : t.size ≤ 140737488351232) (hw : wanted2 f t = 0) :
    Calls Try.prog 16 #[.string f, .string t] w fun e w' => ∃ b2, e = .returned (.tuple #[.pointer (some ⟨b2, 0, none⟩), .int .i64 0]) ∧ Two w' base b1 b2 (fun g => g < base ∨ w'.heap.size ≤ g) hashes [] f t [] [] ∧ Below w.heap.size w w' := by
  refine (newRw_calls w f t hf ht).mono ?_
  rintro e w' (k | ⟨_, b2, rfl, hr, hk⟩)
  · exact absurd hw k.1
  obtain ⟨bm, n, vt, vs, D, Hs, seen, s1, s2, s3, s4, s5, s6⟩ := h
  have hrl := hr.wlt (Or.inl rfl)
  have hrb : ∀ g, RB b2 (.slice none 0 0) (.slice none 0 0) g → g = b2 := by
    rintro g (e | e | e)
    · exact e
    · exact (vb_nil e).elim
    · cases e
  refine ⟨b2, rfl, ⟨bm, n, vt, vs, D, Hs, seen, [], _, _, [], 0, s1.less hk, s2, s3, s4, s5, s6, hr.lower hb, Fed.start _ _ _ _, by decide, fun g hg hr2 => ?_, fun g hg hs => ?_, fun g hg => ⟨fun hs => ?_, fun hr2 => ?_⟩⟩, hk⟩
  · have := (s1.wlt hg).2
    rcases hr2 with rfl | hr2
    · omega
    · cases hr2
  · have := hrb g hg
    have := (s1.wlt (g := g) (hs.elim Or.inl (fun h => Or.inr (Or.inr (Or.inr h))))).2
    omega
  · have h1 := s1.wlt hs
    have := hk.size
    omega
  · have := hrb g hr2
    omega
theorem two_sfeed (w : World) (base b1 b2 : Nat) (X : Nat → Prop) (hashes : List ByteArray) (S1 : List UInt8) (f t : ByteArray) (S2 out : List UInt8) (h : Two w base b1 b2 X hashes S1 f t S2 out) (hX : ∀ g, X g → g < w.heap.size) (gp op m cp : Nat) (p : List UInt8) (hm : m = p.length) (hmc : m ≤ cp) (hp : ∀ j x, p[j]? = some x → w.cell? ⟨gp, op + j, none⟩ = some (bc x)) (np : gp ≠ b1) (hsz : p.length ≤ 4294960000) (hk : S1.length ≤ 2305843009213693952) :
    Calls Try.prog 14 #[.pointer (some ⟨b1, 0, none⟩), .slice (some ⟨gp, op, none⟩) m cp] w fun e w' => e = .returned (.tuple #[]) ∧ Two w' base b1 b2 X hashes (S1 ++ p) f t S2 out ∧ Below base w w' ∧ (∀ g, X g → w'.heap[g]? = w.heap[g]?) := by
  obtain ⟨bm, n, vt, vs, D, Hs, seen, pl, ut, up, tl, d, h⟩ := h
  have hok : ∀ x ∈ Hs, hashNo (bs x) = 0 := fun x hx => h.nw.ok x ((h.nw.mem x).1 hx)
  have hkl : (keep S1).length ≤ 31 := by unfold keep; rw [List.length_drop]; omega
  have hnl := h.nl
  have hhl := h.hl
  refine (scFeed_calls w base b1 bm n vt vs (keep S1) S1.length D Hs seen h.sc h.nw.mo h.nw.nd hok h.sl (by omega) gp op m cp p hm hmc hp np (by omega) hk).mono ?_
  rintro e w' ⟨vt', seen', rfl, hs, hsn, hf, hvb⟩
  have hw : ∀ g, (g = b1 ∨ vs.ownBlock = some g) → SB b1 bm vt vs g := fun g hg => hg.elim Or.inl (fun h => Or.inr (Or.inr (Or.inr h)))
  have hsb : ∀ g, SB b1 bm vt' vs g → SB b1 bm vt vs g ∨ (w.heap.size ≤ g ∧ g < w'.heap.size) := by
    rintro g (rfl | rfl | hg | hg)
    · exact Or.inl (Or.inl rfl)
    · exact Or.inl (Or.inr (Or.inl rfl))
    · rcases hvb g hg with h1 | h1
      · exact Or.inl (Or.inr (Or.inr (Or.inl h1)))
      · exact Or.inr h1
    · exact Or.inl (Or.inr (Or.inr (Or.inr hg)))
  refine ⟨rfl, ⟨bm, n, vt', vs, D, Hs, seen', pl, ut, up, tl, d, ?_, h.nw, by rw [hsn.1, h.sl], h.nl, h.hl, fun k x hk => ?_, h.rw_.fr hf (fun g hg hr => h.d2 g hr hg), h.fd, h.tll, fun g hg hr => ?_, h.d2, fun g hg => ⟨fun hs => ?_, (h.dx g hg).2⟩⟩, below_fr (Below.refl base w) hf (fun g hg => (h.sc.wlt (hw g hg)).1) ?_, fun g hg => hf.block g (hX g hg) (fun hg2 => (h.dx g hg).1 (hw g hg2))⟩
  · have e1 : (keep S1 ++ p).drop ((keep S1 ++ p).length - 31) = keep (S1 ++ p) := keep_more S1 p
    have e2 : (S1 ++ p).length = S1.length + m := by rw [List.length_append, hm]
    rw [e1] at hs
    rw [e2]
    exact hs
  · have hl := hash_len (hok x (List.mem_of_getElem? hk))
    rw [hsn.2 k x hk, h.oc k x hk, occ_more hl]
    constructor
    · rintro (h | ⟨a, _, e⟩)
      · exact Or.inl h
      · exact Or.inr ⟨a, e⟩
    · rintro (h | ⟨a, e⟩)
      · exact Or.inl h
      · have := win_length hl e
        exact Or.inr ⟨a, by omega, e⟩
  · rcases hsb g hg with h1 | h1
    · exact h.d1 g h1 hr
    · have := (h.rw_.wlt hr).2
      omega
  · rcases hsb g hs with h1 | h1
    · exact (h.dx g hg).1 h1
    · have := hX g hg
      omega
  · have := (Array.getElem?_eq_some_iff.1 h.sc.lies).1
    have := h.sc.low
    omega
theorem two_rfeed (w : World) (base b1 b2 : Nat) (X : Nat → Prop) (m : Int) (hashes : List ByteArray) (S1 : List UInt8) (f t : ByteArray) (S2 out : List UInt8) (h : Two w base b1 b2 X hashes S1 f t S2 out) (hX : ∀ g, X g → g < w.heap.size) (hz : 0 < base) (hm : w.cell? ⟨0, 0, none⟩ = some (.int .i64 m)) (hf : (bs f).length = 32) (ht : (bs t).length = 32)
    (gp op n cp : Nat) (p : List UInt8) (hn : n = p.length) (hnc : n ≤ cp) (hp : ∀ j x, p[j]? = some x → w.cell? ⟨gp, op + j, none⟩ = some (bc x)) (np : gp ≠ b2) (hsz : p.length ≤ 4294960000) (hk : S2.length ≤ 1099511627776) :
    Calls Try.prog 17 #[.pointer (some ⟨b2, 0, none⟩), .slice (some ⟨gp, op, none⟩) n cp] w fun e w' => ∃ O : ByteArray, e = .returned (.string O) ∧ Two w' base b1 b2 X hashes S1 f t (S2 ++ p) (out ++ bs O) ∧ Below base w w' ∧ (∀ g, X g → w'.heap[g]? = w.heap[g]?) := by
  obtain ⟨bm, N, vt, vs, D, Hs, seen, pl, ut, up, tl, d, h⟩ := h
  have hbs := (Array.getElem?_eq_some_iff.1 h.rw_.lies).1
  have hlow := h.rw_.low
  have hd := h.fd.pos
  have htl := h.tll
  have hpl : pl.length ≤ S2.length := by
    have e := congrArg List.length (h.fd.place [])
    rw [List.append_nil, List.append_nil, List.length_append] at e
    have := Pl_length hf _ S2 0 (Nat.le_refl _)
    omega
  refine (feed_calls w base b2 m ut up tl S2.length f t d pl h.rw_ hz (by omega) hm hf ht gp op n cp p hn hnc hp np (by omega) (by omega) (by omega) (by omega)).mono ?_
  rintro e w' ⟨O, T, pl2, d', ut', up', rfl, hfd, htl2, hr, hfr, hrb⟩
  have hw : ∀ g, (g = b2 ∨ up.ownBlock = some g) → RB b2 ut up g := fun g hg => hg.elim Or.inl (fun h => Or.inr (Or.inr h))
  refine ⟨O, rfl, ⟨bm, N, vt, vs, D, Hs, seen, pl ++ pl2, ut', up', bs T, d', h.sc.fr hfr (fun g hg hs => h.d1 g hs hg), h.nw, h.sl, h.nl, h.hl, h.oc, ?_, h.fd.more hfd, by rw [← size_bs]; exact htl2, fun g hg hr2 => ?_, fun g hg hs => ?_, fun g hg => ⟨(h.dx g hg).1, fun hr2 => ?_⟩⟩, below_fr (Below.refl base w) hfr (fun g hg => (h.rw_.wlt hg).1) (by omega), fun g hg => hfr.block g (hX g hg) (fun hg2 => (h.dx g hg).2 (hw g hg2))⟩
  · rw [List.length_append, ← hn]
    exact hr
  · have h0 := h.sc.wlt hg
    rcases hrb g (hr2.elim Or.inl (fun h => Or.inr (Or.inr h))) with h1 | h1
    · exact h.d1 g hg h1
    · omega
  · have h3 := h.sc.wlt (g := g) (hs.elim Or.inl (fun h => Or.inr (Or.inr (Or.inr h))))
    rcases hrb g hg with h1 | h1
    · exact h.d1 g (hs.elim Or.inl (fun h => Or.inr (Or.inr (Or.inr h)))) h1
    · omega
  · rcases hrb g hr2 with h1 | h1
    · exact (h.dx g hg).2 (hw g h1)
    · have := hX g hg
      omega
theorem two_close (w : World) (base b1 b2 : Nat) (X : Nat → Prop) (hashes : List ByteArray) (S1 : List UInt8) (f t : ByteArray) (S2 out : List UInt8) (h : Two w base b1 b2 X hashes S1 f t S2 out) (hf : (bs f).length = 32) : Calls Try.prog 18 #[.pointer (some ⟨b2, 0, none⟩)] w fun e w' =>
    ∃ T : ByteArray, e = .returned (.string T) ∧ out ++ bs T = R (bs f) (bs t) S2 ∧ Scn w' base b1 hashes S1 ∧ Rwc w' base b2 f t S2 ∧ Below base w w' := by
  obtain ⟨bm, n, vt, vs, D, Hs, seen, pl, ut, up, tl, d, h⟩ := h
  obtain ⟨e1, e2⟩ := h.fd.whole hf h.tll
  have hlt := h.rw_.wlt (Or.inl rfl)
  refine (close_calls w base b2 ut up tl _ f t d pl false h.rw_).mono ?_
  rintro e w' ⟨rfl, hr, hfr⟩
  rw [if_neg Bool.false_ne_true]
  exact ⟨_, rfl, by rw [bs_mk]; exact e1, ⟨bm, n, vt, vs, D, Hs, seen, h.sc.fr hfr (fun g hg hs => h.d1 g hs (Or.inl hg)), h.nw, h.sl, h.nl, h.hl, h.oc⟩, ⟨ut, up, tl, d, by rw [← e2]; exact hr⟩, below_fr (Below.refl base w) hfr (fun g hg => by rw [hg]; exact hlt.1) (by omega)⟩
end Go.Proofs.Ytbllmpfdhcbkpaa.Scan
/- Rows of numbers in memory, cell by cell; what ScanKeeps has of lists. -/
namespace Go.Proofs.Ytbllmpfdhcbkpaa.Scan
open Go.Shelf Go.RowKit Go.Proofs.Ytbllmpfdhcbkpaa.Q Go.Proofs.YtbllmpfdhcbkpaaW.PrintWords Go.Proofs.YtbllmpfdhcbkpaaW.PrintLast Go.Proofs.YtbllmpfdhcbkpaaW.PrintMore Go.Proofs.Ytbllmpfdhcbkpaa.Bytes
set_option linter.unusedVariables false
set_option linter.unusedSimpArgs false
/-- Block g holds these numbers, and room behind them. -/
structure IQ (W : World) (g cap : Nat) (xs : List Int) : Prop where
  row : ∃ cur : Array Value, W.heap[g]? = some (.cells cur 3 (0, 0)) ∧ cur.size = cap ∧ cur.toList.take xs.length = xs.map (Value.int .i64)
  len : xs.length ≤ cap
  capm : cap ≤ maxLen
section
variable {W W' : World} {g cap : Nat} {xs : List Int}
theorem IQ.lt (h : IQ W g cap xs) : g < W.heap.size := by
  obtain ⟨cur, hg, _⟩ := h.row
  exact (Array.getElem?_eq_some_iff.1 hg).1
theorem IQ.cell (h : IQ W g cap xs) (i : Nat) (x : Int) (hi : xs[i]? = some x) : W.cell? ⟨g, i, none⟩ = some (.int .i64 x) := by
  obtain ⟨cur, hg, hs, ht⟩ := h.row
  have hlt : i < xs.length := (List.getElem?_eq_some_iff.1 hi).1
  have : (xs.map (Value.int .i64))[i]? = some (.int .i64 x) := by rw [List.getElem?_map, hi]; rfl
  rw [← ht, List.getElem?_take, if_pos hlt] at this
  simpa [World.cell?, hg] using this
theorem IQ.fro (h : IQ W g cap xs) (i : Nat) : W.frozen? ⟨g, i, none⟩ = false := by
  obtain ⟨cur, hg, _⟩ := h.row
  simp [World.frozen?, hg]
theorem IQ.kept (h : IQ W g cap xs) (e : W'.heap[g]? = W.heap[g]?) : IQ W' g cap xs := by
  obtain ⟨cur, hg, hs, ht⟩ := h.row
  exact ⟨⟨cur, e.trans hg, hs, ht⟩, h.len, h.capm⟩
theorem IQ.below (h : IQ W g cap xs) (hb : Below W.heap.size W W') : IQ W' g cap xs := h.kept (hb.block g h.lt)
theorem IQ.set (h : IQ W g cap xs) (i : Nat) (x : Int) : IQ (W.setCell ⟨g, i, none⟩ (.int .i64 x)) g cap (xs.set i x) := by
  obtain ⟨cur, hg, hs, ht⟩ := h.row
  refine ⟨⟨cur.setIfInBounds i (.int .i64 x), by simp [World.setCell, Array.getElem?_modify, hg], by simpa using hs, ?_⟩, by rw [List.length_set]; exact h.len, h.capm⟩
  rw [Array.toList_setIfInBounds, List.length_set, List.take_set, ht, List.map_set]
theorem IQ.reads (h : IQ W g cap xs) (n : Nat) (hn : n ≤ xs.length) : Kd.C (Kd.int .i64) W (some ⟨g, 0, none⟩) n (xs.take n) := by
  have hm := h.len
  have hc := h.capm
  refine ⟨by rw [List.length_take]; omega, by simp only [maxLen] at hc; omega, fun _ => ⟨_, rfl, fun j p hj => ⟨[.int .i64 p], rfl, rfl, fun i u hu => ?_⟩⟩⟩
  have hjx : xs[j]? = some p := by
    rw [List.getElem?_take] at hj
    split at hj
    · exact hj
    · cases hj
  have hsz : (Kd.int .i64).sz = 1 := rfl
  match i, hu with
  | 0, hu =>
    have hu' : u = .int .i64 p := by simpa using hu.symm
    subst hu'
    have hadd : (⟨g, 0, none⟩ : Addr).add (j * (Kd.int .i64).sz + 0) = ⟨g, j, none⟩ := by
      rw [hsz, Nat.mul_one, Nat.add_zero]; unfold Addr.add; split <;> simp_all
    rw [hadd]
    exact h.cell j p hjx
  | i + 1, hu => simp at hu
theorem IQ.all (h : IQ W g cap xs) : Kd.C (Kd.int .i64) W (some ⟨g, 0, none⟩) xs.length xs := by
  have := h.reads xs.length (Nat.le_refl _)
  rwa [List.take_length] at this
theorem reps_ints (P : Nat → Prop) (W : World) (base : Nat) (xs : List Int) : Reps ((Kd.int .i64).M W base P) 1 xs (xs.map (Value.int .i64)) := by
  refine ⟨by simp, fun j p hj => ?_⟩
  obtain ⟨hlt, e⟩ := List.getElem?_eq_some_iff.1 hj
  subst e
  simp [Kd.int, Kd.scalar, List.drop_eq_getElem_cons, hlt]
theorem ints_reps {R : Nat → Prop} {base : Nat} {inner : List Value} (h : Reps ((Kd.int .i64).M W base R) 1 xs inner) : inner = xs.map (Value.int .i64) := by
  have hl : inner.length = xs.length := by simpa using h.1
  apply List.ext_getElem
  · simpa using hl
  · intro j h1 h2
    have hj : j < xs.length := by omega
    have := h.2 j _ (List.getElem?_eq_getElem hj)
    have h3 : (inner.drop (j * 1)).take 1 = [.int .i64 xs[j]] := this
    rw [Nat.mul_one, List.drop_eq_getElem_cons h1, List.take_succ_cons, List.take_zero] at h3
    rw [(List.cons.inj h3).1, List.getElem_map]
theorem IQ.of_own {base n : Nat} (h : W.ownsRow base 3 1 (.slice (some ⟨g, 0, none⟩) n cap) n (xs.map (Value.int .i64))) (hn : xs.length = n) : IQ W g cap xs ∧ base ≤ g := by
  rcases h.2 with ⟨e, _⟩ | ⟨g', cap', cur, e, hb, hg, hnc, hcm, hcs, ht⟩
  · cases e
  · cases e
    exact ⟨⟨⟨cur, hg, by simpa using hcs, by rw [hn]; simpa using ht⟩, by omega, hcm⟩, hb⟩
theorem IQ.own {base : Nat} (h : IQ W g cap xs) (hb : base ≤ g) : W.ownsRow base 3 1 (.slice (some ⟨g, 0, none⟩) xs.length cap) xs.length (xs.map (Value.int .i64)) := by
  obtain ⟨cur, hg, hs, ht⟩ := h.row
  exact ⟨by simp, .inr ⟨g, cap, cur, rfl, hb, hg, h.len, h.capm, by simpa using hs, by simpa using ht⟩⟩
theorem IQ.toR {base : Nat} (h : IQ W g cap xs) (hb : base ≤ g) : Kd.R (Kd.int .i64) 3 W base (fun _ => True) (.slice (some ⟨g, 0, none⟩) xs.length cap) xs :=
  ⟨fun _ _ => trivial, _, h.own hb, reps_ints _ _ _ _⟩
/-- A row of one's own: nil, or a block. -/
theorem IQ.of_R {base : Nat} {ok : Nat → Prop} {v : Value} (h : Kd.R (Kd.int .i64) 3 W base ok v xs) : (v = .slice none 0 0 ∧ xs = []) ∨ ∃ g cap, v = .slice (some ⟨g, 0, none⟩) xs.length cap ∧ IQ W g cap xs ∧ base ≤ g ∧ ok g := by
  obtain ⟨hok, inner, ho, hr⟩ := h
  have e := ints_reps hr
  subst e
  have ho' := ho
  rcases ho.2 with ⟨e, hn⟩ | ⟨g, cap, cur, rfl, _⟩
  · exact .inl ⟨e, List.eq_nil_of_length_eq_zero hn⟩
  · obtain ⟨h1, h2⟩ := IQ.of_own ho' rfl
    exact .inr ⟨g, cap, rfl, h1, h2, hok g rfl⟩
end
theorem introw_of {W : World} {base : Nat} {ok : Nat → Prop} {v : Value} {xs : List Int} (h : Kd.R (Kd.int .i64) 3 W base ok v xs) (hn : 0 < xs.length) : ∃ g cap, v = .slice (some ⟨g, 0, none⟩) xs.length cap ∧ IQ W g cap xs ∧ base ≤ g := by
  rcases IQ.of_R h with ⟨_, e⟩ | ⟨g, cap, e, hQ, hb, _⟩
  · rw [e] at hn; simp at hn
  · exact ⟨g, cap, e, hQ, hb⟩
/-- Two lists of one's own (a of texts, x of numbers) that are written, and two (b, y) that stay. -/
structure St (w9 : World) (n10 n11 n12 n13 : Nat) (W : World) (va vx vb vy : Value) (na nx : Nat) (L : List ByteArray) (P : List Int) : Prop where
  bel : Below w9.heap.size w9 W
  sz : w9.heap.size ≤ n10 ∧ n10 ≤ n11 ∧ n11 ≤ n12 ∧ n12 ≤ n13 ∧ n13 ≤ W.heap.size
  ra : ∃ L', L'.length = na ∧ Kd.R Kd.string 9 W w9.heap.size (fun k => (w9.heap.size ≤ k ∧ k < n10) ∨ n13 ≤ k) va L'
  rx : ∃ P', P'.length = nx ∧ Kd.R (Kd.int .i64) 3 W w9.heap.size (fun k => (n11 ≤ k ∧ k < n12) ∨ n13 ≤ k) vx P'
  rb : Kd.R Kd.string 9 W w9.heap.size (fun k => n10 ≤ k ∧ k < n11) vb L
  ry : Kd.R (Kd.int .i64) 3 W w9.heap.size (fun k => n12 ≤ k ∧ k < n13) vy P
  ap : ∀ k, va.ownBlock = some k → vx.ownBlock ≠ some k
section
variable {w9 W W2 : World} {n10 n11 n12 n13 : Nat} {va vx vb vy : Value} {na nx : Nat} {L : List ByteArray} {P : List Int}
theorem St.below (h : St w9 n10 n11 n12 n13 W va vx vb vy na nx L P) (k : Below W.heap.size W W2) : St w9 n10 n11 n12 n13 W2 va vx vb vy na nx L P := by
  obtain ⟨L', l1, l2⟩ := h.ra
  obtain ⟨P', p1, p2⟩ := h.rx
  have := h.sz
  exact ⟨h.bel.trans (k.mono (by omega)), by have := k.size; omega, ⟨L', l1, Kd.R_below l2 k⟩, ⟨P', p1, Kd.R_below p2 k⟩, Kd.R_below h.rb k, Kd.R_below h.ry k, h.ap⟩
theorem St.aslice (h : St w9 n10 n11 n12 n13 W va vx vb vy na nx L P) (hn : 0 < na) : ∃ g c, va = .slice (some ⟨g, 0, none⟩) na c := by
  obtain ⟨L', l1, l2⟩ := h.ra
  obtain ⟨g, c, e, _⟩ := row_of l2 (by omega)
  exact ⟨g, c, by rw [e, l1]⟩
theorem St.xslice (h : St w9 n10 n11 n12 n13 W va vx vb vy na nx L P) (hn : 0 < nx) : ∃ g c, vx = .slice (some ⟨g, 0, none⟩) nx c := by
  obtain ⟨L', l1, l2⟩ := h.rx
  obtain ⟨g, c, e, _⟩ := introw_of l2 (by omega)
  exact ⟨g, c, by rw [e, l1]⟩
theorem St.setA {g c i : Nat} {u : ByteArray} (h : St w9 n10 n11 n12 n13 W (.slice (some ⟨g, 0, none⟩) na c) vx vb vy na nx L P) (hi : i < na) : (∃ o, W.cell? ⟨g, i, none⟩ = some (.string o)) ∧ W.frozen? ⟨g, i, none⟩ = false ∧ St w9 n10 n11 n12 n13 (W.setCell ⟨g, i, none⟩ (.string u)) (.slice (some ⟨g, 0, none⟩) na c) vx vb vy na nx L P := by
  obtain ⟨L', l1, l2⟩ := h.ra
  obtain ⟨P', p1, p2⟩ := h.rx
  obtain ⟨g', c', e, hq, hb⟩ := row_of l2 (by omega)
  rw [l1] at e
  simp only [Value.slice.injEq, Option.some.injEq, Addr.mk.injEq] at e
  obtain ⟨⟨rfl, _⟩, _, rfl⟩ := e
  have hg := l2.1 g rfl
  have hsz := h.sz
  have hs := hq.set i u
  refine ⟨⟨_, hq.cell i _ (List.getElem?_eq_getElem (show i < L'.length by omega))⟩, hq.fro i, h.bel.setCell (p := ⟨g, i, none⟩) hb _, by simpa [World.setCell] using hsz, ⟨L'.set i u, by rw [List.length_set]; exact l1, ?_⟩, ⟨P', p1, ?_⟩, ?_, ?_, h.ap⟩
  · have h3 := hs.toR hb
    rw [List.length_set, l1] at h3
    exact Kd.R_reok rfl h3 (fun k hk => by have : g = k := by simpa [Value.ownBlock] using hk
                                           subst this; exact hg)
  · have ha := h.ap g rfl
    exact Kd.R_reok rfl (Kd.R_far (p := ⟨g, i, none⟩) (Kd.R_far1 p2 rfl (g := g) (fun e => ha e.symm)) (fun k hk => hk.2) _) (fun k hk => p2.1 k hk)
  · exact Kd.R_far (p := ⟨g, i, none⟩) h.rb (fun k hk => by show k ≠ g; omega) _
  · exact Kd.R_far (p := ⟨g, i, none⟩) h.ry (fun k hk => by show k ≠ g; omega) _
theorem St.setX {g c i : Nat} {u : Int} (h : St w9 n10 n11 n12 n13 W va (.slice (some ⟨g, 0, none⟩) nx c) vb vy na nx L P) (hi : i < nx) : (∃ o, W.cell? ⟨g, i, none⟩ = some (.int .i64 o)) ∧ W.frozen? ⟨g, i, none⟩ = false ∧ St w9 n10 n11 n12 n13 (W.setCell ⟨g, i, none⟩ (.int .i64 u)) va (.slice (some ⟨g, 0, none⟩) nx c) vb vy na nx L P := by
  obtain ⟨L', l1, l2⟩ := h.ra
  obtain ⟨P', p1, p2⟩ := h.rx
  obtain ⟨g', c', e, hq, hb⟩ := introw_of p2 (by omega)
  rw [p1] at e
  simp only [Value.slice.injEq, Option.some.injEq, Addr.mk.injEq] at e
  obtain ⟨⟨rfl, _⟩, _, rfl⟩ := e
  have hg := p2.1 g rfl
  have hsz := h.sz
  have hs := hq.set i u
  refine ⟨⟨_, hq.cell i _ (List.getElem?_eq_getElem (show i < P'.length by omega))⟩, hq.fro i, h.bel.setCell (p := ⟨g, i, none⟩) hb _, by simpa [World.setCell] using hsz, ⟨L', l1, ?_⟩, ⟨P'.set i u, by rw [List.length_set]; exact p1, ?_⟩, ?_, ?_, h.ap⟩
  · exact Kd.R_reok rfl (Kd.R_far (p := ⟨g, i, none⟩) (Kd.R_far1 l2 rfl (g := g) (fun e => h.ap g e.symm rfl)) (fun k hk => hk.2) _) (fun k hk => l2.1 k hk)
  · have h3 := hs.toR hb
    rw [List.length_set, p1] at h3
    exact Kd.R_reok rfl h3 (fun k hk => by have : g = k := by simpa [Value.ownBlock] using hk
                                           subst this; exact hg)
  · exact Kd.R_far (p := ⟨g, i, none⟩) h.rb (fun k hk => by show k ≠ g; omega) _
  · exact Kd.R_far (p := ⟨g, i, none⟩) h.ry (fun k hk => by show k ≠ g; omega) _
theorem St.appA {v1 : Value} {L1 : List ByteArray} {p : List ByteArray} (h : St w9 n10 n11 n12 n13 W va vx vb vy na nx L P) (hr : Kd.R Kd.string 9 W2 w9.heap.size (fun k => (w9.heap.size ≤ k ∧ k < n10) ∨ n13 ≤ k) v1 (L1 ++ p)) (hl : L1.length = na) (hb : Below w9.heap.size w9 W2) (hg : W.grownBy W2 va.ownBlock) (hat : v1.ownBlock = va.ownBlock ∨ ∃ b, v1.ownBlock = some b ∧ W.heap.size ≤ b) : St w9 n10 n11 n12 n13 W2 v1 vx vb vy (na + p.length) nx L P := by
  obtain ⟨L', l1, l2⟩ := h.ra
  obtain ⟨P', p1, p2⟩ := h.rx
  have hsz := h.sz
  refine ⟨hb, by have := hg.size; omega, ⟨L1 ++ p, by rw [List.length_append, hl], hr⟩, ⟨P', p1, ?_⟩, ?_, ?_, fun k hk hx => ?_⟩
  · exact Kd.R_grown2 p2 rfl hg (fun k hk e => h.ap k hk e.symm)
  · exact Kd.R_grown h.rb hg (fun k hk e => by have := l2.1 k e.symm; omega)
  · exact Kd.R_grown h.ry hg (fun k hk e => by have := l2.1 k e.symm; omega)
  · rcases hat with e | ⟨b, e, hbl⟩
    · exact h.ap k (by rw [← e]; exact hk) hx
    · rw [e] at hk
      injection hk with hk
      obtain ⟨inn, ho⟩ := Kd.R_own p2
      have := own_lt ho k hx
      omega
theorem St.appX {v1 : Value} {P1 : List Int} {p : List Int} (h : St w9 n10 n11 n12 n13 W va vx vb vy na nx L P) (hr : Kd.R (Kd.int .i64) 3 W2 w9.heap.size (fun k => (n11 ≤ k ∧ k < n12) ∨ n13 ≤ k) v1 (P1 ++ p)) (hl : P1.length = nx) (hb : Below w9.heap.size w9 W2) (hg : W.grownBy W2 vx.ownBlock) (hat : v1.ownBlock = vx.ownBlock ∨ ∃ b, v1.ownBlock = some b ∧ W.heap.size ≤ b) : St w9 n10 n11 n12 n13 W2 va v1 vb vy na (nx + p.length) L P := by
  obtain ⟨L', l1, l2⟩ := h.ra
  obtain ⟨P', p1, p2⟩ := h.rx
  have hsz := h.sz
  refine ⟨hb, by have := hg.size; omega, ⟨L', l1, ?_⟩, ⟨P1 ++ p, by rw [List.length_append, hl], hr⟩, ?_, ?_, fun k hk hx => ?_⟩
  · exact Kd.R_grown2 l2 rfl hg (fun k hk e => h.ap k e.symm hk)
  · exact Kd.R_grown h.rb hg (fun k hk e => by have := p2.1 k e.symm; omega)
  · exact Kd.R_grown h.ry hg (fun k hk e => by have := p2.1 k e.symm; omega)
  · rcases hat with e | ⟨b, e, hbl⟩
    · exact h.ap k hk (by rw [← e]; exact hx)
    · rw [e] at hx
      injection hx with hx
      obtain ⟨inn, ho⟩ := Kd.R_own l2
      have := own_lt ho k hk
      omega
end
end Go.Proofs.Ytbllmpfdhcbkpaa.Scan
/- By a program of this session's: a plain Lean function for a Go function, and its contract. -/
namespace Go.Proofs.Ytbllmpfdhcbkpaa.Q
open Go.RowKit Go.Proofs.YtbllmpfdhcbkpaaW.PrintWords Go.Proofs.YtbllmpfdhcbkpaaW.PrintLast Go.Proofs.YtbllmpfdhcbkpaaW.PrintMore
attribute [local go_sem] max2_int min2_int max_two min_two max_three min_three max_four min_four Go.Proofs.Ytbllmpfdhcbkpaa.Ord.str_leq Go.Proofs.Ytbllmpfdhcbkpaa.Ord.str_gtr Go.Proofs.Ytbllmpfdhcbkpaa.Ord.str_geq   -- for this text's walks alone
set_option linter.unusedVariables false
set_option linter.unusedSimpArgs false

/-! ### depotref14_Within: function 34 -/
def depotref14_Within.l0 : Nat → ByteArray → ByteArray → Int → Option (Bool)
  | 0, _, _, _ => none
  | k + 1, x0, x1, x5 => if x5 < (x0.size : Int) then ((depotref14_At.f x0 x1 x5).bind fun t257 => (if t257 = true then (some true) else (depotref14_Within.l0 k x0 x1 (wrap64 (x5 + 1))))) else (some false)
def depotref14_Within.f (k : Nat) (a0 : ByteArray) (a1 : ByteArray) : Option (Bool) := depotref14_Within.l0 k a0 a1 0
theorem depotref14_Within.mono_l : ∀ k, (∀ y0 y1 y2, LeO (depotref14_Within.l0 k y0 y1 y2) (depotref14_Within.l0 (k + 1) y0 y1 y2))
  | 0 => fun _ _ _ r h => by simp [depotref14_Within.l0] at h
  | k + 1 => by
    have ih0 := depotref14_Within.mono_l k
    · intro y0 y1 y2
      unfold depotref14_Within.l0
      repeat' first
      | (with_reducible exact ih0 _ _ _)
      | (with_reducible exact LeO.refl _)
      | (with_reducible exact LeO.none _)
      | (with_reducible refine LeO.ite ?_ ?_)
      | (with_reducible refine LeO.bind ?_ (fun _ => ?_))
      | exact ih0 _ _ _
      | exact LeO.none _
      | refine LeO.ite ?_ ?_
      | refine LeO.bind ?_ (fun _ => ?_)
theorem depotref14_Within.mono : ∀ a0 a1 k, LeO (depotref14_Within.f k a0 a1) (depotref14_Within.f (k + 1) a0 a1) := by
  intro a0 a1 k
  have ih0 := depotref14_Within.mono_l k
  unfold depotref14_Within.f
  repeat' first
      | (with_reducible exact ih0 _ _ _)
      | (with_reducible exact LeO.refl _)
      | (with_reducible exact LeO.none _)
      | (with_reducible refine LeO.ite ?_ ?_)
      | (with_reducible refine LeO.bind ?_ (fun _ => ?_))
      | exact ih0 _ _ _
      | exact LeO.none _
      | refine LeO.ite ?_ ?_
      | refine LeO.bind ?_ (fun _ => ?_)
set_option maxHeartbeats 8000000 in
set_option maxRecDepth 100000 in
theorem depotref14_Within.calls (k : Nat) (a0 : ByteArray) (a1 : ByteArray) (r : Bool) (w : World) (h : depotref14_Within.f k a0 a1 = some r) :
    Calls Try.prog 34 #[.string a0, .string a1] w fun e w' => e = .returned (.bool r) ∧ Drawn0 w w' := by
  have H : (depotref14_Within.l0 k a0 a1 0) = some r := h
  clear h
  have H' := Aside0.mk H
  clear H
  go_enter Try.func34, Try.ntmps34
  go_wp2
  go_loopg [5] k (fun kq v5 w' => ∃ (x5_1 : Int), v5 = .int .i64 x5_1 ∧ Aside0 (depotref14_Within.l0 kq a0 a1 x5_1 = some r) ∧ Aside0 (kq ≤ k) ∧ Drawn0 w w')
  case atStart => exact ⟨(0), (by first | rfl | (simp; done) | (simp [*]; done)), H', ⟨Nat.le_refl _⟩, by repeat (first | exact Drawn0.refl _ | apply Drawn0.step)⟩
  case round =>
    clear H'
    try clear p2
    obtain ⟨x5_1, rfl, HA, HK1, ⟨m1, rfl⟩⟩ := hrel
    cases gk with
    | zero => exact absurd HA.out (by simp [depotref14_Within.l0])
    | succ k1 =>
      have H := HA.out
      clear HA
      simp only [depotref14_Within.l0] at H
      by_cases c3 : x5_1 < (a0.size : Int)
      · rw [if_pos c3] at H
        have c3b0 : decide (x5_1 < (a0.size : Int)) = true := decide_eq_true c3
        clear c3
        replace H := Option.bind_eq_some_iff.mp H
        obtain ⟨t257, A40, H⟩ := H
        replace H : (if t257 = true then (some true) else (depotref14_Within.l0 k1 a0 a1 (wrap64 (x5_1 + 1)))) = some r := H
        have A4 := Aside0.mk A40
        clear A40
        by_cases c5 : t257 = true
        · subst c5
          have H1 : (some true) = some r := by rw [if_pos rfl] at H; exact H
          clear H
          have H := H1
          clear H1
          obtain rfl := Option.some.inj H
          go_wp2_with (first | ((with_reducible refine gate_callee (f := 24) rfl ?_); refine goesL_ (some 15) rfl rfl Try.func24 (by kernel_rfl) rfl #[.string a0, .string a1, .int .i64 x5_1] rfl (by (try simp only [List.map_toArray, List.map_cons, List.map_nil]); first | done | rfl | (simp only [List.length_drop, List.length_take]; rfl)) ?_; (with_reducible refine (depotref14_At.calls a0 a1 x5_1 true _ A4.out).mono ?_); rintro e w' ⟨rfl, ⟨nd, rfl⟩⟩; refine ⟨_, rfl, ?_⟩))
          go_ret
          exact ⟨by first | rfl | (simp; done) | (simp [*]; done), by repeat (first | exact Drawn0.refl _ | apply Drawn0.step)⟩
        · replace c5 := Bool.eq_false_iff.mpr c5
          subst c5
          have H1 : (depotref14_Within.l0 k1 a0 a1 (wrap64 (x5_1 + 1))) = some r := by rw [if_neg (show ¬ (false = true) by decide)] at H; exact H
          clear H
          have H := H1
          clear H1
          have H' := Aside0.mk H
          clear H
          go_wp2_with (first | ((with_reducible refine gate_callee (f := 24) rfl ?_); refine goesL_ (some 15) rfl rfl Try.func24 (by kernel_rfl) rfl #[.string a0, .string a1, .int .i64 x5_1] rfl (by (try simp only [List.map_toArray, List.map_cons, List.map_nil]); first | done | rfl | (simp only [List.length_drop, List.length_take]; rfl)) ?_; (with_reducible refine (depotref14_At.calls a0 a1 x5_1 false _ A4.out).mono ?_); rintro e w' ⟨rfl, ⟨nd, rfl⟩⟩; refine ⟨_, rfl, ?_⟩))
          go_roundg k1
          case measure => have := HK1.out; omega
          case rel => exact ⟨(wrap64 (x5_1 + 1)), (by first | rfl | (simp; done) | (simp [*]; done)), H', ⟨by have := HK1.out; omega⟩, by repeat (first | exact Drawn0.refl _ | apply Drawn0.step)⟩
      · rw [if_neg c3] at H
        have c3b0 : decide (x5_1 < (a0.size : Int)) = false := decide_eq_false c3
        clear c3
        obtain rfl := Option.some.inj H
        go_wp2
        go_ret
        exact ⟨by first | rfl | (simp; done) | (simp [*]; done), by repeat (first | exact Drawn0.refl _ | apply Drawn0.step)⟩

end Go.Proofs.Ytbllmpfdhcbkpaa.Q
/- By a program of this session's: a plain Lean function for a Go function, and its contract. -/
namespace Go.Proofs.Ytbllmpfdhcbkpaa.Q
open Go.RowKit Go.Proofs.YtbllmpfdhcbkpaaW.PrintWords Go.Proofs.YtbllmpfdhcbkpaaW.PrintLast Go.Proofs.YtbllmpfdhcbkpaaW.PrintMore
attribute [local go_sem] max2_int min2_int max_two min_two max_three min_three max_four min_four Go.Proofs.Ytbllmpfdhcbkpaa.Ord.str_leq Go.Proofs.Ytbllmpfdhcbkpaa.Ord.str_gtr Go.Proofs.Ytbllmpfdhcbkpaa.Ord.str_geq   -- for this text's walks alone
set_option linter.unusedVariables false
set_option linter.unusedSimpArgs false

/-! ### depotref14_Found: function 23 -/
mutual
def depotref14_Found.l0 : Nat → List ByteArray → ByteArray → List ByteArray → Option (List ByteArray)
  | 0, _, _, _ => none
  | k + 1, x0, x1, x5 => depotref14_Found.l1 k x0 x1 x5 (⟨#[]⟩ : ByteArray) 0
def depotref14_Found.l1 : Nat → List ByteArray → ByteArray → List ByteArray → ByteArray → Int → Option (List ByteArray)
  | 0, _, _, _, _, _ => none
  | k + 1, x0, x1, x5, x6, x7 => if x7 < (x0.length : Int) then (if 0 ≤ x7 then (if (x5.length : Int) = 0 then (if x6.toList = ([] : List UInt8) then ((depotref14_Within.f k x1 (rdOf ByteArray.empty x0 x7)).bind fun t259 => (if t259 = true then (depotref14_Found.l1 k x0 x1 x5 (rdOf ByteArray.empty x0 x7) (wrap64 (x7 + 1))) else (depotref14_Found.l1 k x0 x1 x5 x6 (wrap64 (x7 + 1))))) else (if (Op.bytesLess ((rdOf ByteArray.empty x0 x7).toList) x6.toList) = true then ((depotref14_Within.f k x1 (rdOf ByteArray.empty x0 x7)).bind fun t260 => (if t260 = true then (depotref14_Found.l1 k x0 x1 x5 (rdOf ByteArray.empty x0 x7) (wrap64 (x7 + 1))) else (depotref14_Found.l1 k x0 x1 x5 x6 (wrap64 (x7 + 1))))) else (depotref14_Found.l1 k x0 x1 x5 x6 (wrap64 (x7 + 1))))) else (if 0 ≤ (wrap64 ((x5.length : Int) - 1)) then (if (wrap64 ((x5.length : Int) - 1)) < (x5.length : Int) then (if (Op.bytesLess ((rdOf ByteArray.empty x5 (wrap64 ((x5.length : Int) - 1))).toList) ((rdOf ByteArray.empty x0 x7).toList)) = true then (if x6.toList = ([] : List UInt8) then ((depotref14_Within.f k x1 (rdOf ByteArray.empty x0 x7)).bind fun t262 => (if t262 = true then (depotref14_Found.l1 k x0 x1 x5 (rdOf ByteArray.empty x0 x7) (wrap64 (x7 + 1))) else (depotref14_Found.l1 k x0 x1 x5 x6 (wrap64 (x7 + 1))))) else (if (Op.bytesLess ((rdOf ByteArray.empty x0 x7).toList) x6.toList) = true then ((depotref14_Within.f k x1 (rdOf ByteArray.empty x0 x7)).bind fun t263 => (if t263 = true then (depotref14_Found.l1 k x0 x1 x5 (rdOf ByteArray.empty x0 x7) (wrap64 (x7 + 1))) else (depotref14_Found.l1 k x0 x1 x5 x6 (wrap64 (x7 + 1))))) else (depotref14_Found.l1 k x0 x1 x5 x6 (wrap64 (x7 + 1))))) else (depotref14_Found.l1 k x0 x1 x5 x6 (wrap64 (x7 + 1)))) else (none)) else (none))) else (none)) else (if x6.toList = ([] : List UInt8) then (some x5) else (if x5.length < 8796093022208 then (depotref14_Found.l0 k x0 x1 (x5 ++ [x6])) else (none)))
end
def depotref14_Found.f (k : Nat) (l0 : List ByteArray) (a1 : ByteArray) : Option (List ByteArray) := depotref14_Found.l0 k l0 a1 ([] : List ByteArray)
theorem depotref14_Found.mono_l : ∀ k, (∀ y0 y1 y2, LeO (depotref14_Found.l0 k y0 y1 y2) (depotref14_Found.l0 (k + 1) y0 y1 y2)) ∧ (∀ y0 y1 y2 y3 y4, LeO (depotref14_Found.l1 k y0 y1 y2 y3 y4) (depotref14_Found.l1 (k + 1) y0 y1 y2 y3 y4))
  | 0 => ⟨fun _ _ _ r h => by simp [depotref14_Found.l0] at h, fun _ _ _ _ _ r h => by simp [depotref14_Found.l1] at h⟩
  | k + 1 => by
    obtain ⟨ih0, ih1⟩ := depotref14_Found.mono_l k
    refine ⟨?_, ?_⟩
    · intro y0 y1 y2
      unfold depotref14_Found.l0
      repeat' first
      | (with_reducible exact ih0 _ _ _)
      | (with_reducible exact ih1 _ _ _ _ _)
      | (with_reducible exact depotref14_Within.mono _ _ _)
      | (with_reducible exact LeO.refl _)
      | (with_reducible exact LeO.none _)
      | (with_reducible refine LeO.ite ?_ ?_)
      | (with_reducible refine LeO.bind ?_ (fun _ => ?_))
      | exact ih0 _ _ _
      | exact ih1 _ _ _ _ _
      | exact depotref14_Within.mono _ _ _
      | exact LeO.none _
      | refine LeO.ite ?_ ?_
      | refine LeO.bind ?_ (fun _ => ?_)
    · intro y0 y1 y2 y3 y4
      unfold depotref14_Found.l1
      repeat' first
      | (with_reducible exact ih0 _ _ _)
      | (with_reducible exact ih1 _ _ _ _ _)
      | (with_reducible exact depotref14_Within.mono _ _ _)
      | (with_reducible exact LeO.refl _)
      | (with_reducible exact LeO.none _)
      | (with_reducible refine LeO.ite ?_ ?_)
      | (with_reducible refine LeO.bind ?_ (fun _ => ?_))
      | exact ih0 _ _ _
      | exact ih1 _ _ _ _ _
      | exact depotref14_Within.mono _ _ _
      | exact LeO.none _
      | refine LeO.ite ?_ ?_
      | refine LeO.bind ?_ (fun _ => ?_)
theorem depotref14_Found.mono : ∀ a0 a1 k, LeO (depotref14_Found.f k a0 a1) (depotref14_Found.f (k + 1) a0 a1) := by
  intro a0 a1 k
  obtain ⟨ih0, ih1⟩ := depotref14_Found.mono_l k
  unfold depotref14_Found.f
  repeat' first
      | (with_reducible exact ih0 _ _ _)
      | (with_reducible exact ih1 _ _ _ _ _)
      | (with_reducible exact depotref14_Within.mono _ _ _)
      | (with_reducible exact LeO.refl _)
      | (with_reducible exact LeO.none _)
      | (with_reducible refine LeO.ite ?_ ?_)
      | (with_reducible refine LeO.bind ?_ (fun _ => ?_))
      | exact ih0 _ _ _
      | exact ih1 _ _ _ _ _
      | exact depotref14_Within.mono _ _ _
      | exact LeO.none _
      | refine LeO.ite ?_ ?_
      | refine LeO.bind ?_ (fun _ => ?_)
set_option maxHeartbeats 8000000 in
set_option maxRecDepth 100000 in
theorem depotref14_Found.calls (k : Nat) (A0 : Option Addr) (c0 : Nat) (l0 : List ByteArray) (a1 : ByteArray) (r : List ByteArray) (w : World) (hr0 : Kd.C Kd.string w A0 l0.length l0) (hc0 : l0.length ≤ c0) (h : depotref14_Found.f k l0 a1 = some r) :
    Calls Try.prog 23 #[.slice A0 l0.length c0, .string a1] w fun e w' => ∃ v0_ : Value, e = .returned (v0_) ∧ Kd.R Kd.string 9 w' w.heap.size (fun _ => True) v0_ r ∧ Below w.heap.size w w' := by
  have HR0 := Aside0.mk hr0
  have HC0 := Aside0.mk hc0
  clear hr0 hc0
  have HB := Aside0.mk (Below.refl w.heap.size w)
  have H : (depotref14_Found.l0 k l0 a1 ([] : List ByteArray)) = some r := h
  clear h
  have H' := Aside0.mk H
  clear H
  go_enter Try.func23, Try.ntmps23
  go_wp2
  go_loopg [5] k (fun kq v5 w' => ∃ (x5_1 : List ByteArray), Aside0 (depotref14_Found.l0 kq l0 a1 x5_1 = some r) ∧ Aside0 (kq ≤ k) ∧ Aside0 (Kd.R Kd.string 9 w' w.heap.size (fun _ => True) v5 x5_1) ∧ Aside0 (Below w.heap.size w w'))
  case atStart => exact ⟨(([] : List ByteArray)), H', ⟨Nat.le_refl _⟩, ⟨by first | exact Kd.R_nil _ _ _ _ _ | exact Kd.N_nil _ _ _ _ _ | exact Kd.V_nil _ _ _ _ _ | exact Kd.Q_nil _ _ _ _ _ | exact Kd.S_nil _ _ _ _ _⟩, ⟨by repeat (first | (with_reducible first | exact HB.out | apply below_alloc | apply pw_below_drewN | apply below_drew1) | exact HB.out)⟩⟩
  case round =>
    clear H'
    try clear c2
    try clear p2
    obtain ⟨x5_1, HA, HK1, HO_5, HB⟩ := hrel
    cases gk with
    | zero => exact absurd HA.out (by simp [depotref14_Found.l0])
    | succ k1 =>
      have H := HA.out
      clear HA
      simp only [depotref14_Found.l0] at H
      have H' := Aside0.mk H
      clear H
      go_wp2
      go_loopg [6, 7] k1 (fun kq v6 v7 w' => ∃ (x6_2 : ByteArray) (x7_2 : Int), v6 = .string x6_2 ∧ v7 = .int .i64 x7_2 ∧ Aside0 (depotref14_Found.l1 kq l0 a1 x5_1 x6_2 x7_2 = some r) ∧ Aside0 (kq ≤ k1) ∧ Aside0 (Kd.R Kd.string 9 w' w.heap.size (fun _ => True) u5 x5_1) ∧ Aside0 (Below w.heap.size w w'))
      case atStart => exact ⟨((⟨#[]⟩ : ByteArray)), (0), (by first | rfl | (simp; done) | (simp [*]; done)), (by first | rfl | (simp; done) | (simp [*]; done)), H', ⟨Nat.le_refl _⟩, ⟨by (with_reducible repeat (first | apply Kd.R_alloc | apply Kd.R_drewN | apply Kd.R_drew)); exact HO_5.out⟩, ⟨by repeat (first | (with_reducible first | exact HB.out | apply below_alloc | apply pw_below_drewN | apply below_drew1) | exact HB.out)⟩⟩
      case round =>
        clear H'
        try clear c2
        try clear p2
        try clear p2
        obtain ⟨x6_2, x7_2, rfl, rfl, HA, HK2, HO_5, HB⟩ := hrel
        cases gk with
        | zero => exact absurd HA.out (by simp [depotref14_Found.l1])
        | succ k2 =>
          have H := HA.out
          clear HA
          simp only [depotref14_Found.l1] at H
          by_cases c3 : x7_2 < (l0.length : Int)
          · rw [if_pos c3] at H
            have c3b0 : decide (x7_2 < (l0.length : Int)) = true := decide_eq_true c3
            clear c3
            by_cases c4 : 0 ≤ x7_2
            · rw [if_pos c4] at H
              have c4b0 : decide (0 ≤ x7_2) = true := decide_eq_true c4
              clear c4
              by_cases c5 : (x5_1.length : Int) = 0
              · rw [if_pos c5] at H
                have c5b0 : ((x5_1.length : Int) == 0) = true := beq_iff_eq.mpr c5
                have c5b1 : ((x5_1.length : Int) != 0) = false := bne_eq_false_iff_eq.mpr c5
                clear c5
                by_cases c6 : x6_2.toList = ([] : List UInt8)
                · rw [if_pos c6] at H
                  have c6b0 : (x6_2.toList == ([] : List UInt8)) = true := beq_iff_eq.mpr c6
                  have c6b1 : (x6_2.toList != ([] : List UInt8)) = false := bne_eq_false_iff_eq.mpr c6
                  clear c6
                  replace H := Option.bind_eq_some_iff.mp H
                  obtain ⟨t259, A70, H⟩ := H
                  replace H : (if t259 = true then (depotref14_Found.l1 k2 l0 a1 x5_1 (rdOf ByteArray.empty l0 x7_2) (wrap64 (x7_2 + 1))) else (depotref14_Found.l1 k2 l0 a1 x5_1 x6_2 (wrap64 (x7_2 + 1)))) = some r := H
                  have A7 := Aside0.mk A70
                  clear A70
                  by_cases c8 : t259 = true
                  · subst c8
                    have H1 : (depotref14_Found.l1 k2 l0 a1 x5_1 (rdOf ByteArray.empty l0 x7_2) (wrap64 (x7_2 + 1))) = some r := by rw [if_pos rfl] at H; exact H
                    clear H
                    have H := H1
                    clear H1
                    have H' := Aside0.mk H
                    clear H
                    have p258 : 0 ≤ (x7_2 : Int) := of_decide_eq_true (by first | (with_reducible assumption) | assumption)
                    have q258 : x7_2 < (l0.length : Int) := of_decide_eq_true (by first | (with_reducible assumption) | assumption)
                    obtain ⟨ad258, e258, hx258_0⟩ := Kd.at_string HR0.out x7_2 p258 q258
                    cases e258
                    replace hx258_0 := (HB.out.cell (World.block_lt_of_cell? w _ hx258_0)).trans hx258_0
                    replace p258 := eq_true p258
                    replace q258 := eq_true q258
                    obtain ⟨Ao9, co9, eo9⟩ := Kd.R_slice HO_5.out
                    subst eo9
                    go_wp2_with (first | (go_at_call 34; (with_reducible refine (depotref14_Within.calls k2 a1 (rdOf ByteArray.empty l0 x7_2) true _ A7.out).mono ?_); rintro e w' ⟨rfl, ⟨nd, rfl⟩⟩))
                    go_roundg k2
                    case measure => have := HK1.out; have := HK2.out; omega
                    case rel => exact ⟨(rdOf ByteArray.empty l0 x7_2), (wrap64 (x7_2 + 1)), (by first | rfl | (simp; done) | (simp [*]; done)), (by first | rfl | (simp; done) | (simp [*]; done)), H', ⟨by have := HK1.out; have := HK2.out; omega⟩, ⟨by (with_reducible repeat (first | apply Kd.R_alloc | apply Kd.R_drewN | apply Kd.R_drew)); exact HO_5.out⟩, ⟨by repeat (first | (with_reducible first | exact HB.out | apply below_alloc | apply pw_below_drewN | apply below_drew1) | exact HB.out)⟩⟩
                  · replace c8 := Bool.eq_false_iff.mpr c8
                    subst c8
                    have H1 : (depotref14_Found.l1 k2 l0 a1 x5_1 x6_2 (wrap64 (x7_2 + 1))) = some r := by rw [if_neg (show ¬ (false = true) by decide)] at H; exact H
                    clear H
                    have H := H1
                    clear H1
                    have H' := Aside0.mk H
                    clear H
                    have p258 : 0 ≤ (x7_2 : Int) := of_decide_eq_true (by first | (with_reducible assumption) | assumption)
                    have q258 : x7_2 < (l0.length : Int) := of_decide_eq_true (by first | (with_reducible assumption) | assumption)
                    obtain ⟨ad258, e258, hx258_0⟩ := Kd.at_string HR0.out x7_2 p258 q258
                    cases e258
                    replace hx258_0 := (HB.out.cell (World.block_lt_of_cell? w _ hx258_0)).trans hx258_0
                    replace p258 := eq_true p258
                    replace q258 := eq_true q258
                    obtain ⟨Ao10, co10, eo10⟩ := Kd.R_slice HO_5.out
                    subst eo10
                    go_wp2_with (first | (go_at_call 34; (with_reducible refine (depotref14_Within.calls k2 a1 (rdOf ByteArray.empty l0 x7_2) false _ A7.out).mono ?_); rintro e w' ⟨rfl, ⟨nd, rfl⟩⟩))
                    go_roundg k2
                    case measure => have := HK1.out; have := HK2.out; omega
                    case rel => exact ⟨(x6_2), (wrap64 (x7_2 + 1)), (by first | rfl | (simp; done) | (simp [*]; done)), (by first | rfl | (simp; done) | (simp [*]; done)), H', ⟨by have := HK1.out; have := HK2.out; omega⟩, ⟨by (with_reducible repeat (first | apply Kd.R_alloc | apply Kd.R_drewN | apply Kd.R_drew)); exact HO_5.out⟩, ⟨by repeat (first | (with_reducible first | exact HB.out | apply below_alloc | apply pw_below_drewN | apply below_drew1) | exact HB.out)⟩⟩
                · rw [if_neg c6] at H
                  have c6b0 : (x6_2.toList == ([] : List UInt8)) = false := beq_eq_false_iff_ne.mpr c6
                  have c6b1 : (x6_2.toList != ([] : List UInt8)) = true := bne_iff_ne.mpr c6
                  by_cases c11 : (Op.bytesLess ((rdOf ByteArray.empty l0 x7_2).toList) x6_2.toList) = true
                  · rw [if_pos c11] at H
                    have c11b0 : (Op.bytesLess ((rdOf ByteArray.empty l0 x7_2).toList) x6_2.toList) = true := c11
                    clear c11
                    replace H := Option.bind_eq_some_iff.mp H
                    obtain ⟨t260, A120, H⟩ := H
                    replace H : (if t260 = true then (depotref14_Found.l1 k2 l0 a1 x5_1 (rdOf ByteArray.empty l0 x7_2) (wrap64 (x7_2 + 1))) else (depotref14_Found.l1 k2 l0 a1 x5_1 x6_2 (wrap64 (x7_2 + 1)))) = some r := H
                    have A12 := Aside0.mk A120
                    clear A120
                    by_cases c13 : t260 = true
                    · subst c13
                      have H1 : (depotref14_Found.l1 k2 l0 a1 x5_1 (rdOf ByteArray.empty l0 x7_2) (wrap64 (x7_2 + 1))) = some r := by rw [if_pos rfl] at H; exact H
                      clear H
                      have H := H1
                      clear H1
                      have H' := Aside0.mk H
                      clear H
                      have p258 : 0 ≤ (x7_2 : Int) := of_decide_eq_true (by first | (with_reducible assumption) | assumption)
                      have q258 : x7_2 < (l0.length : Int) := of_decide_eq_true (by first | (with_reducible assumption) | assumption)
                      obtain ⟨ad258, e258, hx258_0⟩ := Kd.at_string HR0.out x7_2 p258 q258
                      cases e258
                      replace hx258_0 := (HB.out.cell (World.block_lt_of_cell? w _ hx258_0)).trans hx258_0
                      replace p258 := eq_true p258
                      replace q258 := eq_true q258
                      obtain ⟨Ao14, co14, eo14⟩ := Kd.R_slice HO_5.out
                      subst eo14
                      go_wp2_with (first | (go_at_call 34; (with_reducible refine (depotref14_Within.calls k2 a1 (rdOf ByteArray.empty l0 x7_2) true _ A12.out).mono ?_); rintro e w' ⟨rfl, ⟨nd, rfl⟩⟩))
                      go_roundg k2
                      case measure => have := HK1.out; have := HK2.out; omega
                      case rel => exact ⟨(rdOf ByteArray.empty l0 x7_2), (wrap64 (x7_2 + 1)), (by first | rfl | (simp; done) | (simp [*]; done)), (by first | rfl | (simp; done) | (simp [*]; done)), H', ⟨by have := HK1.out; have := HK2.out; omega⟩, ⟨by (with_reducible repeat (first | apply Kd.R_alloc | apply Kd.R_drewN | apply Kd.R_drew)); exact HO_5.out⟩, ⟨by repeat (first | (with_reducible first | exact HB.out | apply below_alloc | apply pw_below_drewN | apply below_drew1) | exact HB.out)⟩⟩
                    · replace c13 := Bool.eq_false_iff.mpr c13
                      subst c13
                      have H1 : (depotref14_Found.l1 k2 l0 a1 x5_1 x6_2 (wrap64 (x7_2 + 1))) = some r := by rw [if_neg (show ¬ (false = true) by decide)] at H; exact H
                      clear H
                      have H := H1
                      clear H1
                      have H' := Aside0.mk H
                      clear H
                      have p258 : 0 ≤ (x7_2 : Int) := of_decide_eq_true (by first | (with_reducible assumption) | assumption)
                      have q258 : x7_2 < (l0.length : Int) := of_decide_eq_true (by first | (with_reducible assumption) | assumption)
                      obtain ⟨ad258, e258, hx258_0⟩ := Kd.at_string HR0.out x7_2 p258 q258
                      cases e258
                      replace hx258_0 := (HB.out.cell (World.block_lt_of_cell? w _ hx258_0)).trans hx258_0
                      replace p258 := eq_true p258
                      replace q258 := eq_true q258
                      obtain ⟨Ao15, co15, eo15⟩ := Kd.R_slice HO_5.out
                      subst eo15
                      go_wp2_with (first | (go_at_call 34; (with_reducible refine (depotref14_Within.calls k2 a1 (rdOf ByteArray.empty l0 x7_2) false _ A12.out).mono ?_); rintro e w' ⟨rfl, ⟨nd, rfl⟩⟩))
                      go_roundg k2
                      case measure => have := HK1.out; have := HK2.out; omega
                      case rel => exact ⟨(x6_2), (wrap64 (x7_2 + 1)), (by first | rfl | (simp; done) | (simp [*]; done)), (by first | rfl | (simp; done) | (simp [*]; done)), H', ⟨by have := HK1.out; have := HK2.out; omega⟩, ⟨by (with_reducible repeat (first | apply Kd.R_alloc | apply Kd.R_drewN | apply Kd.R_drew)); exact HO_5.out⟩, ⟨by repeat (first | (with_reducible first | exact HB.out | apply below_alloc | apply pw_below_drewN | apply below_drew1) | exact HB.out)⟩⟩
                  · rw [if_neg c11] at H
                    have c11b0 : (Op.bytesLess ((rdOf ByteArray.empty l0 x7_2).toList) x6_2.toList) = false := by simpa using c11
                    clear c11
                    have H' := Aside0.mk H
                    clear H
                    have p258 : 0 ≤ (x7_2 : Int) := of_decide_eq_true (by first | (with_reducible assumption) | assumption)
                    have q258 : x7_2 < (l0.length : Int) := of_decide_eq_true (by first | (with_reducible assumption) | assumption)
                    obtain ⟨ad258, e258, hx258_0⟩ := Kd.at_string HR0.out x7_2 p258 q258
                    cases e258
                    replace hx258_0 := (HB.out.cell (World.block_lt_of_cell? w _ hx258_0)).trans hx258_0
                    replace p258 := eq_true p258
                    replace q258 := eq_true q258
                    obtain ⟨Ao16, co16, eo16⟩ := Kd.R_slice HO_5.out
                    subst eo16
                    go_wp2
                    go_roundg k2
                    case measure => have := HK1.out; have := HK2.out; omega
                    case rel => exact ⟨(x6_2), (wrap64 (x7_2 + 1)), (by first | rfl | (simp; done) | (simp [*]; done)), (by first | rfl | (simp; done) | (simp [*]; done)), H', ⟨by have := HK1.out; have := HK2.out; omega⟩, ⟨by (with_reducible repeat (first | apply Kd.R_alloc | apply Kd.R_drewN | apply Kd.R_drew)); exact HO_5.out⟩, ⟨by repeat (first | (with_reducible first | exact HB.out | apply below_alloc | apply pw_below_drewN | apply below_drew1) | exact HB.out)⟩⟩
              · rw [if_neg c5] at H
                have c5b0 : ((x5_1.length : Int) == 0) = false := beq_eq_false_iff_ne.mpr c5
                have c5b1 : ((x5_1.length : Int) != 0) = true := bne_iff_ne.mpr c5
                have c5b2 : ¬ (x5_1 = []) := fun h_ => c5 (by rw [h_]; rfl)
                obtain ⟨ji17, hji17⟩ : ∃ j_ : Int, (wrap64 ((x5_1.length : Int) - 1)) = j_ := ⟨_, rfl⟩
                replace H : (if 0 ≤ (ji17) then (if (ji17) < (x5_1.length : Int) then (if (Op.bytesLess ((rdOf ByteArray.empty x5_1 (ji17)).toList) ((rdOf ByteArray.empty l0 x7_2).toList)) = true then (if x6_2.toList = ([] : List UInt8) then ((depotref14_Within.f k2 a1 (rdOf ByteArray.empty l0 x7_2)).bind fun t262 => (if t262 = true then (depotref14_Found.l1 k2 l0 a1 x5_1 (rdOf ByteArray.empty l0 x7_2) (wrap64 (x7_2 + 1))) else (depotref14_Found.l1 k2 l0 a1 x5_1 x6_2 (wrap64 (x7_2 + 1))))) else (if (Op.bytesLess ((rdOf ByteArray.empty l0 x7_2).toList) x6_2.toList) = true then ((depotref14_Within.f k2 a1 (rdOf ByteArray.empty l0 x7_2)).bind fun t263 => (if t263 = true then (depotref14_Found.l1 k2 l0 a1 x5_1 (rdOf ByteArray.empty l0 x7_2) (wrap64 (x7_2 + 1))) else (depotref14_Found.l1 k2 l0 a1 x5_1 x6_2 (wrap64 (x7_2 + 1))))) else (depotref14_Found.l1 k2 l0 a1 x5_1 x6_2 (wrap64 (x7_2 + 1))))) else (depotref14_Found.l1 k2 l0 a1 x5_1 x6_2 (wrap64 (x7_2 + 1)))) else (none)) else (none)) = some r := by first | (rw [hji17] at H; exact H) | (simp only [hji17] at H ⊢; exact H)
                have hji17w : (IntKind.i64.wrap ((x5_1.length : Int) - 1)) = ji17 := (i64_w _).trans hji17
                by_cases c18 : 0 ≤ (ji17)
                · rw [if_pos c18] at H
                  have c18b0 : decide (0 ≤ (ji17)) = true := decide_eq_true c18
                  clear c18
                  by_cases c19 : (ji17) < (x5_1.length : Int)
                  · rw [if_pos c19] at H
                    have c19b0 : decide ((ji17) < (x5_1.length : Int)) = true := decide_eq_true c19
                    clear c19
                    by_cases c20 : (Op.bytesLess ((rdOf ByteArray.empty x5_1 (ji17)).toList) ((rdOf ByteArray.empty l0 x7_2).toList)) = true
                    · rw [if_pos c20] at H
                      have c20b0 : (Op.bytesLess ((rdOf ByteArray.empty x5_1 (ji17)).toList) ((rdOf ByteArray.empty l0 x7_2).toList)) = true := c20
                      clear c20
                      by_cases c21 : x6_2.toList = ([] : List UInt8)
                      · rw [if_pos c21] at H
                        have c21b0 : (x6_2.toList == ([] : List UInt8)) = true := beq_iff_eq.mpr c21
                        have c21b1 : (x6_2.toList != ([] : List UInt8)) = false := bne_eq_false_iff_eq.mpr c21
                        clear c21
                        replace H := Option.bind_eq_some_iff.mp H
                        obtain ⟨t262, A220, H⟩ := H
                        replace H : (if t262 = true then (depotref14_Found.l1 k2 l0 a1 x5_1 (rdOf ByteArray.empty l0 x7_2) (wrap64 (x7_2 + 1))) else (depotref14_Found.l1 k2 l0 a1 x5_1 x6_2 (wrap64 (x7_2 + 1)))) = some r := H
                        have A22 := Aside0.mk A220
                        clear A220
                        by_cases c23 : t262 = true
                        · subst c23
                          have H1 : (depotref14_Found.l1 k2 l0 a1 x5_1 (rdOf ByteArray.empty l0 x7_2) (wrap64 (x7_2 + 1))) = some r := by rw [if_pos rfl] at H; exact H
                          clear H
                          have H := H1
                          clear H1
                          have H' := Aside0.mk H
                          clear H
                          have p258 : 0 ≤ (x7_2 : Int) := of_decide_eq_true (by first | (with_reducible assumption) | assumption)
                          have q258 : x7_2 < (l0.length : Int) := of_decide_eq_true (by first | (with_reducible assumption) | assumption)
                          obtain ⟨ad258, e258, hx258_0⟩ := Kd.at_string HR0.out x7_2 p258 q258
                          cases e258
                          replace hx258_0 := (HB.out.cell (World.block_lt_of_cell? w _ hx258_0)).trans hx258_0
                          replace p258 := eq_true p258
                          replace q258 := eq_true q258
                          obtain ⟨Ao24, co24, eo24⟩ := Kd.R_slice HO_5.out
                          subst eo24
                          have p261 : 0 ≤ ((ji17) : Int) := of_decide_eq_true (by first | (with_reducible assumption) | assumption)
                          have q261 : (ji17) < (x5_1.length : Int) := of_decide_eq_true (by first | (with_reducible assumption) | assumption)
                          obtain ⟨ad261, e261, hx261_0⟩ := Kd.at_string (Kd.R_reads' HO_5.out).2.2 (ji17) p261 q261
                          cases e261
                          replace p261 := eq_true p261
                          replace q261 := eq_true q261
                          go_wp2_with (first | (go_at_call 34; (with_reducible refine (depotref14_Within.calls k2 a1 (rdOf ByteArray.empty l0 x7_2) true _ A22.out).mono ?_); rintro e w' ⟨rfl, ⟨nd, rfl⟩⟩))
                          go_roundg k2
                          case measure => have := HK1.out; have := HK2.out; omega
                          case rel => exact ⟨(rdOf ByteArray.empty l0 x7_2), (wrap64 (x7_2 + 1)), (by first | rfl | (simp; done) | (simp [*]; done)), (by first | rfl | (simp; done) | (simp [*]; done)), H', ⟨by have := HK1.out; have := HK2.out; omega⟩, ⟨by (with_reducible repeat (first | apply Kd.R_alloc | apply Kd.R_drewN | apply Kd.R_drew)); exact HO_5.out⟩, ⟨by repeat (first | (with_reducible first | exact HB.out | apply below_alloc | apply pw_below_drewN | apply below_drew1) | exact HB.out)⟩⟩
                        · replace c23 := Bool.eq_false_iff.mpr c23
                          subst c23
                          have H1 : (depotref14_Found.l1 k2 l0 a1 x5_1 x6_2 (wrap64 (x7_2 + 1))) = some r := by rw [if_neg (show ¬ (false = true) by decide)] at H; exact H
                          clear H
                          have H := H1
                          clear H1
                          have H' := Aside0.mk H
                          clear H
                          have p258 : 0 ≤ (x7_2 : Int) := of_decide_eq_true (by first | (with_reducible assumption) | assumption)
                          have q258 : x7_2 < (l0.length : Int) := of_decide_eq_true (by first | (with_reducible assumption) | assumption)
                          obtain ⟨ad258, e258, hx258_0⟩ := Kd.at_string HR0.out x7_2 p258 q258
                          cases e258
                          replace hx258_0 := (HB.out.cell (World.block_lt_of_cell? w _ hx258_0)).trans hx258_0
                          replace p258 := eq_true p258
                          replace q258 := eq_true q258
                          obtain ⟨Ao25, co25, eo25⟩ := Kd.R_slice HO_5.out
                          subst eo25
                          have p261 : 0 ≤ ((ji17) : Int) := of_decide_eq_true (by first | (with_reducible assumption) | assumption)
                          have q261 : (ji17) < (x5_1.length : Int) := of_decide_eq_true (by first | (with_reducible assumption) | assumption)
                          obtain ⟨ad261, e261, hx261_0⟩ := Kd.at_string (Kd.R_reads' HO_5.out).2.2 (ji17) p261 q261
                          cases e261
                          replace p261 := eq_true p261
                          replace q261 := eq_true q261
                          go_wp2_with (first | (go_at_call 34; (with_reducible refine (depotref14_Within.calls k2 a1 (rdOf ByteArray.empty l0 x7_2) false _ A22.out).mono ?_); rintro e w' ⟨rfl, ⟨nd, rfl⟩⟩))
                          go_roundg k2
                          case measure => have := HK1.out; have := HK2.out; omega
                          case rel => exact ⟨(x6_2), (wrap64 (x7_2 + 1)), (by first | rfl | (simp; done) | (simp [*]; done)), (by first | rfl | (simp; done) | (simp [*]; done)), H', ⟨by have := HK1.out; have := HK2.out; omega⟩, ⟨by (with_reducible repeat (first | apply Kd.R_alloc | apply Kd.R_drewN | apply Kd.R_drew)); exact HO_5.out⟩, ⟨by repeat (first | (with_reducible first | exact HB.out | apply below_alloc | apply pw_below_drewN | apply below_drew1) | exact HB.out)⟩⟩
                      · rw [if_neg c21] at H
                        have c21b0 : (x6_2.toList == ([] : List UInt8)) = false := beq_eq_false_iff_ne.mpr c21
                        have c21b1 : (x6_2.toList != ([] : List UInt8)) = true := bne_iff_ne.mpr c21
                        by_cases c26 : (Op.bytesLess ((rdOf ByteArray.empty l0 x7_2).toList) x6_2.toList) = true
                        · rw [if_pos c26] at H
                          have c26b0 : (Op.bytesLess ((rdOf ByteArray.empty l0 x7_2).toList) x6_2.toList) = true := c26
                          clear c26
                          replace H := Option.bind_eq_some_iff.mp H
                          obtain ⟨t263, A270, H⟩ := H
                          replace H : (if t263 = true then (depotref14_Found.l1 k2 l0 a1 x5_1 (rdOf ByteArray.empty l0 x7_2) (wrap64 (x7_2 + 1))) else (depotref14_Found.l1 k2 l0 a1 x5_1 x6_2 (wrap64 (x7_2 + 1)))) = some r := H
                          have A27 := Aside0.mk A270
                          clear A270
                          by_cases c28 : t263 = true
                          · subst c28
                            have H1 : (depotref14_Found.l1 k2 l0 a1 x5_1 (rdOf ByteArray.empty l0 x7_2) (wrap64 (x7_2 + 1))) = some r := by rw [if_pos rfl] at H; exact H
                            clear H
                            have H := H1
                            clear H1
                            have H' := Aside0.mk H
                            clear H
                            have p258 : 0 ≤ (x7_2 : Int) := of_decide_eq_true (by first | (with_reducible assumption) | assumption)
                            have q258 : x7_2 < (l0.length : Int) := of_decide_eq_true (by first | (with_reducible assumption) | assumption)
                            obtain ⟨ad258, e258, hx258_0⟩ := Kd.at_string HR0.out x7_2 p258 q258
                            cases e258
                            replace hx258_0 := (HB.out.cell (World.block_lt_of_cell? w _ hx258_0)).trans hx258_0
                            replace p258 := eq_true p258
                            replace q258 := eq_true q258
                            obtain ⟨Ao29, co29, eo29⟩ := Kd.R_slice HO_5.out
                            subst eo29
                            have p261 : 0 ≤ ((ji17) : Int) := of_decide_eq_true (by first | (with_reducible assumption) | assumption)
                            have q261 : (ji17) < (x5_1.length : Int) := of_decide_eq_true (by first | (with_reducible assumption) | assumption)
                            obtain ⟨ad261, e261, hx261_0⟩ := Kd.at_string (Kd.R_reads' HO_5.out).2.2 (ji17) p261 q261
                            cases e261
                            replace p261 := eq_true p261
                            replace q261 := eq_true q261
                            go_wp2_with (first | (go_at_call 34; (with_reducible refine (depotref14_Within.calls k2 a1 (rdOf ByteArray.empty l0 x7_2) true _ A27.out).mono ?_); rintro e w' ⟨rfl, ⟨nd, rfl⟩⟩))
                            go_roundg k2
                            case measure => have := HK1.out; have := HK2.out; omega
                            case rel => exact ⟨(rdOf ByteArray.empty l0 x7_2), (wrap64 (x7_2 + 1)), (by first | rfl | (simp; done) | (simp [*]; done)), (by first | rfl | (simp; done) | (simp [*]; done)), H', ⟨by have := HK1.out; have := HK2.out; omega⟩, ⟨by (with_reducible repeat (first | apply Kd.R_alloc | apply Kd.R_drewN | apply Kd.R_drew)); exact HO_5.out⟩, ⟨by repeat (first | (with_reducible first | exact HB.out | apply below_alloc | apply pw_below_drewN | apply below_drew1) | exact HB.out)⟩⟩
                          · replace c28 := Bool.eq_false_iff.mpr c28
                            subst c28
                            have H1 : (depotref14_Found.l1 k2 l0 a1 x5_1 x6_2 (wrap64 (x7_2 + 1))) = some r := by rw [if_neg (show ¬ (false = true) by decide)] at H; exact H
                            clear H
                            have H := H1
                            clear H1
                            have H' := Aside0.mk H
                            clear H
                            have p258 : 0 ≤ (x7_2 : Int) := of_decide_eq_true (by first | (with_reducible assumption) | assumption)
                            have q258 : x7_2 < (l0.length : Int) := of_decide_eq_true (by first | (with_reducible assumption) | assumption)
                            obtain ⟨ad258, e258, hx258_0⟩ := Kd.at_string HR0.out x7_2 p258 q258
                            cases e258
                            replace hx258_0 := (HB.out.cell (World.block_lt_of_cell? w _ hx258_0)).trans hx258_0
                            replace p258 := eq_true p258
                            replace q258 := eq_true q258
                            obtain ⟨Ao30, co30, eo30⟩ := Kd.R_slice HO_5.out
                            subst eo30
                            have p261 : 0 ≤ ((ji17) : Int) := of_decide_eq_true (by first | (with_reducible assumption) | assumption)
                            have q261 : (ji17) < (x5_1.length : Int) := of_decide_eq_true (by first | (with_reducible assumption) | assumption)
                            obtain ⟨ad261, e261, hx261_0⟩ := Kd.at_string (Kd.R_reads' HO_5.out).2.2 (ji17) p261 q261
                            cases e261
                            replace p261 := eq_true p261
                            replace q261 := eq_true q261
                            go_wp2_with (first | (go_at_call 34; (with_reducible refine (depotref14_Within.calls k2 a1 (rdOf ByteArray.empty l0 x7_2) false _ A27.out).mono ?_); rintro e w' ⟨rfl, ⟨nd, rfl⟩⟩))
                            go_roundg k2
                            case measure => have := HK1.out; have := HK2.out; omega
                            case rel => exact ⟨(x6_2), (wrap64 (x7_2 + 1)), (by first | rfl | (simp; done) | (simp [*]; done)), (by first | rfl | (simp; done) | (simp [*]; done)), H', ⟨by have := HK1.out; have := HK2.out; omega⟩, ⟨by (with_reducible repeat (first | apply Kd.R_alloc | apply Kd.R_drewN | apply Kd.R_drew)); exact HO_5.out⟩, ⟨by repeat (first | (with_reducible first | exact HB.out | apply below_alloc | apply pw_below_drewN | apply below_drew1) | exact HB.out)⟩⟩
                        · rw [if_neg c26] at H
                          have c26b0 : (Op.bytesLess ((rdOf ByteArray.empty l0 x7_2).toList) x6_2.toList) = false := by simpa using c26
                          clear c26
                          have H' := Aside0.mk H
                          clear H
                          have p258 : 0 ≤ (x7_2 : Int) := of_decide_eq_true (by first | (with_reducible assumption) | assumption)
                          have q258 : x7_2 < (l0.length : Int) := of_decide_eq_true (by first | (with_reducible assumption) | assumption)
                          obtain ⟨ad258, e258, hx258_0⟩ := Kd.at_string HR0.out x7_2 p258 q258
                          cases e258
                          replace hx258_0 := (HB.out.cell (World.block_lt_of_cell? w _ hx258_0)).trans hx258_0
                          replace p258 := eq_true p258
                          replace q258 := eq_true q258
                          obtain ⟨Ao31, co31, eo31⟩ := Kd.R_slice HO_5.out
                          subst eo31
                          have p261 : 0 ≤ ((ji17) : Int) := of_decide_eq_true (by first | (with_reducible assumption) | assumption)
                          have q261 : (ji17) < (x5_1.length : Int) := of_decide_eq_true (by first | (with_reducible assumption) | assumption)
                          obtain ⟨ad261, e261, hx261_0⟩ := Kd.at_string (Kd.R_reads' HO_5.out).2.2 (ji17) p261 q261
                          cases e261
                          replace p261 := eq_true p261
                          replace q261 := eq_true q261
                          go_wp2
                          go_roundg k2
                          case measure => have := HK1.out; have := HK2.out; omega
                          case rel => exact ⟨(x6_2), (wrap64 (x7_2 + 1)), (by first | rfl | (simp; done) | (simp [*]; done)), (by first | rfl | (simp; done) | (simp [*]; done)), H', ⟨by have := HK1.out; have := HK2.out; omega⟩, ⟨by (with_reducible repeat (first | apply Kd.R_alloc | apply Kd.R_drewN | apply Kd.R_drew)); exact HO_5.out⟩, ⟨by repeat (first | (with_reducible first | exact HB.out | apply below_alloc | apply pw_below_drewN | apply below_drew1) | exact HB.out)⟩⟩
                    · rw [if_neg c20] at H
                      have c20b0 : (Op.bytesLess ((rdOf ByteArray.empty x5_1 (ji17)).toList) ((rdOf ByteArray.empty l0 x7_2).toList)) = false := by simpa using c20
                      clear c20
                      have H' := Aside0.mk H
                      clear H
                      have p258 : 0 ≤ (x7_2 : Int) := of_decide_eq_true (by first | (with_reducible assumption) | assumption)
                      have q258 : x7_2 < (l0.length : Int) := of_decide_eq_true (by first | (with_reducible assumption) | assumption)
                      obtain ⟨ad258, e258, hx258_0⟩ := Kd.at_string HR0.out x7_2 p258 q258
                      cases e258
                      replace hx258_0 := (HB.out.cell (World.block_lt_of_cell? w _ hx258_0)).trans hx258_0
                      replace p258 := eq_true p258
                      replace q258 := eq_true q258
                      obtain ⟨Ao32, co32, eo32⟩ := Kd.R_slice HO_5.out
                      subst eo32
                      have p261 : 0 ≤ ((ji17) : Int) := of_decide_eq_true (by first | (with_reducible assumption) | assumption)
                      have q261 : (ji17) < (x5_1.length : Int) := of_decide_eq_true (by first | (with_reducible assumption) | assumption)
                      obtain ⟨ad261, e261, hx261_0⟩ := Kd.at_string (Kd.R_reads' HO_5.out).2.2 (ji17) p261 q261
                      cases e261
                      replace p261 := eq_true p261
                      replace q261 := eq_true q261
                      go_wp2
                      go_roundg k2
                      case measure => have := HK1.out; have := HK2.out; omega
                      case rel => exact ⟨(x6_2), (wrap64 (x7_2 + 1)), (by first | rfl | (simp; done) | (simp [*]; done)), (by first | rfl | (simp; done) | (simp [*]; done)), H', ⟨by have := HK1.out; have := HK2.out; omega⟩, ⟨by (with_reducible repeat (first | apply Kd.R_alloc | apply Kd.R_drewN | apply Kd.R_drew)); exact HO_5.out⟩, ⟨by repeat (first | (with_reducible first | exact HB.out | apply below_alloc | apply pw_below_drewN | apply below_drew1) | exact HB.out)⟩⟩
                  · rw [if_neg c19] at H
                    exact absurd H (by simp)
                · rw [if_neg c18] at H
                  exact absurd H (by simp)
            · rw [if_neg c4] at H
              exact absurd H (by simp)
          · rw [if_neg c3] at H
            have c3b0 : decide (x7_2 < (l0.length : Int)) = false := decide_eq_false c3
            clear c3
            by_cases c33 : x6_2.toList = ([] : List UInt8)
            · rw [if_pos c33] at H
              have c33b0 : (x6_2.toList == ([] : List UInt8)) = true := beq_iff_eq.mpr c33
              have c33b1 : (x6_2.toList != ([] : List UInt8)) = false := bne_eq_false_iff_eq.mpr c33
              clear c33
              obtain rfl := Option.some.inj H
              go_wp2
              go_ret
              exact ⟨_, by first | rfl | (simp [errW_none, errW_some] <;> rfl) | (simp [*, errW_none, errW_some] <;> rfl), by (with_reducible repeat (first | apply Kd.R_alloc | apply Kd.R_drewN | apply Kd.R_drew)); exact HO_5.out, by repeat (first | (with_reducible first | exact HB.out | apply below_alloc | apply pw_below_drewN | apply below_drew1) | exact HB.out)⟩
            · rw [if_neg c33] at H
              have c33b0 : (x6_2.toList == ([] : List UInt8)) = false := beq_eq_false_iff_ne.mpr c33
              have c33b1 : (x6_2.toList != ([] : List UInt8)) = true := bne_iff_ne.mpr c33
              by_cases c34 : x5_1.length < 8796093022208
              · rw [if_pos c34] at H
                have LMc34 := Aside0.mk c34
                clear c34
                obtain ⟨y264, hy264⟩ : ∃ y_ : List ByteArray, y_ = (x5_1 ++ [x6_2]) := ⟨_, rfl⟩
                replace H : (depotref14_Found.l0 k2 l0 a1 y264) = some r := by first | (rw [hy264]; with_reducible exact H) | (have H2_ := (Option.bind_some _ _).symm.trans H; rw [hy264]; with_reducible exact H2_) | (have H2_ := (Option.bind_some _ _).symm.trans H; with_reducible exact H2_) | with_reducible exact H | (rw [hy264]; exact H) | exact H
                have Ny264 := Aside0.mk hy264
                clear hy264
                have H' := Aside0.mk H
                clear H
                go_wp2_with (first | ((with_reducible refine gate_builtin (b := .append) (xs := #[.tmp 52, .tmp 54]) rfl ?_); (try (refine gate_guard (by rfl) ?_; dsimp only)); at_builtin; refine Kd.R_append Kd.string (w0 := w) w.heap.size rfl (.tmp 52) (.tmp 54) 34 9 (.string ⟨#[]⟩) 16 rfl Try.underlying34 info9 rfl (by decide) (by omega) u5 x5_1 x6_2 [.string x6_2] (fun _ => True) (fun _ => False) rfl rfl ?aP (fun _ hk => hk.elim) ?aF ?aO ?aB ?aS ?aL ?_; (case aP => exact rfl); (case aB => exact (by repeat (first | (with_reducible first | exact HB.out | apply below_alloc | apply pw_below_drewN | apply below_drew1) | exact HB.out))); (case aF => exact (fun _ _ => trivial)); (case aO => exact (by (with_reducible repeat (first | apply Kd.R_alloc | apply Kd.R_drewN | apply Kd.R_drew)); exact HO_5.out)); (case aS => exact (below_size (by repeat (first | (with_reducible first | exact HB.out | apply below_alloc | apply pw_below_drewN | apply below_drew1) | exact HB.out)))); (case aL => have := LMc34.out; omega); intro v265 w35 ho hb hg hat; rw [← Ny264.out] at ho; have n0_ := Aside0.mk (hb); have n1_ := Aside0.mk (ho); clear HB; clear HO_5; have HB := n0_; have HO266 := n1_; clear n0_ n1_; clear ho hb hg hat))
                go_roundg k2
                case measure => have := HK1.out; have := HK2.out; omega
                case rel => exact ⟨(y264), H', ⟨by have := HK1.out; have := HK2.out; omega⟩, ⟨by (with_reducible repeat (first | apply Kd.R_alloc | apply Kd.R_drewN | apply Kd.R_drew)); exact HO266.out⟩, ⟨by repeat (first | (with_reducible first | exact HB.out | apply below_alloc | apply pw_below_drewN | apply below_drew1) | exact HB.out)⟩⟩
              · rw [if_neg c34] at H
                exact absurd H (by simp)

end Go.Proofs.Ytbllmpfdhcbkpaa.Q
/- By a program of this session's: a plain Lean function for a Go function, and its contract. -/
namespace Go.Proofs.Ytbllmpfdhcbkpaa.Q
open Go.RowKit Go.Proofs.YtbllmpfdhcbkpaaW.PrintWords Go.Proofs.YtbllmpfdhcbkpaaW.PrintLast Go.Proofs.YtbllmpfdhcbkpaaW.PrintMore
attribute [local go_sem] max2_int min2_int max_two min_two max_three min_three max_four min_four Go.Proofs.Ytbllmpfdhcbkpaa.Ord.str_leq Go.Proofs.Ytbllmpfdhcbkpaa.Ord.str_gtr Go.Proofs.Ytbllmpfdhcbkpaa.Ord.str_geq   -- for this text's walks alone
set_option linter.unusedVariables false
set_option linter.unusedSimpArgs false

/-! ### depotlaw14_texts: function 20 -/
def depotlaw14_texts.l0 : Nat → List ByteArray → List ByteArray → Int → Int → Option (Bool)
  | 0, _, _, _, _ => none
  | k + 1, x0, x1, x12, x13 => if x13 < x12 then (if 0 ≤ x13 then (if x13 < (x0.length : Int) then (if x13 < (x1.length : Int) then (if (rdOf ByteArray.empty x0 x13).toList = (rdOf ByteArray.empty x1 x13).toList then (depotlaw14_texts.l0 k x0 x1 x12 (wrap64 (x13 + 1))) else (some false)) else (none)) else (none)) else (none)) else (some true)
def depotlaw14_texts.f (k : Nat) (l0 : List ByteArray) (l1 : List ByteArray) : Option (Bool) := if (l0.length : Int) = (l1.length : Int) then (depotlaw14_texts.l0 k l0 l1 (l0.length : Int) 0) else (some false)
theorem depotlaw14_texts.mono_l : ∀ k, (∀ y0 y1 y2 y3, LeO (depotlaw14_texts.l0 k y0 y1 y2 y3) (depotlaw14_texts.l0 (k + 1) y0 y1 y2 y3))
  | 0 => fun _ _ _ _ r h => by simp [depotlaw14_texts.l0] at h
  | k + 1 => by
    have ih0 := depotlaw14_texts.mono_l k
    · intro y0 y1 y2 y3
      unfold depotlaw14_texts.l0
      repeat' first
      | (with_reducible exact ih0 _ _ _ _)
      | (with_reducible exact LeO.refl _)
      | (with_reducible exact LeO.none _)
      | (with_reducible refine LeO.ite ?_ ?_)
      | (with_reducible refine LeO.bind ?_ (fun _ => ?_))
      | exact ih0 _ _ _ _
      | exact LeO.none _
      | refine LeO.ite ?_ ?_
      | refine LeO.bind ?_ (fun _ => ?_)
theorem depotlaw14_texts.mono : ∀ a0 a1 k, LeO (depotlaw14_texts.f k a0 a1) (depotlaw14_texts.f (k + 1) a0 a1) := by
  intro a0 a1 k
  have ih0 := depotlaw14_texts.mono_l k
  unfold depotlaw14_texts.f
  repeat' first
      | (with_reducible exact ih0 _ _ _ _)
      | (with_reducible exact LeO.refl _)
      | (with_reducible exact LeO.none _)
      | (with_reducible refine LeO.ite ?_ ?_)
      | (with_reducible refine LeO.bind ?_ (fun _ => ?_))
      | exact ih0 _ _ _ _
      | exact LeO.none _
      | refine LeO.ite ?_ ?_
      | refine LeO.bind ?_ (fun _ => ?_)
set_option maxHeartbeats 8000000 in
set_option maxRecDepth 100000 in
theorem depotlaw14_texts.calls (k : Nat) (A0 : Option Addr) (c0 : Nat) (l0 : List ByteArray) (A1 : Option Addr) (c1 : Nat) (l1 : List ByteArray) (r : Bool) (w : World) (hr0 : Kd.C Kd.string w A0 l0.length l0) (hc0 : l0.length ≤ c0) (hr1 : Kd.C Kd.string w A1 l1.length l1) (hc1 : l1.length ≤ c1) (h : depotlaw14_texts.f k l0 l1 = some r) :
    Calls Try.prog 20 #[.slice A0 l0.length c0, .slice A1 l1.length c1] w fun e w' => e = .returned (.bool r) ∧ Drawn0 w w' := by
  have HR0 := Aside0.mk hr0
  have HC0 := Aside0.mk hc0
  clear hr0 hc0
  have HR1 := Aside0.mk hr1
  have HC1 := Aside0.mk hc1
  clear hr1 hc1
  have H : (if (l0.length : Int) = (l1.length : Int) then (depotlaw14_texts.l0 k l0 l1 (l0.length : Int) 0) else (some false)) = some r := h
  clear h
  by_cases c3 : (l0.length : Int) = (l1.length : Int)
  · rw [if_pos c3] at H
    have c3b0 : ((l0.length : Int) == (l1.length : Int)) = true := beq_iff_eq.mpr c3
    have c3b1 : ((l0.length : Int) != (l1.length : Int)) = false := bne_eq_false_iff_eq.mpr c3
    have c3b2 : (l0.length == l1.length) = true := by first | simpa using c3 | (simp at c3 ⊢; omega)
    clear c3
    have H' := Aside0.mk H
    clear H
    go_enter Try.func20, Try.ntmps20
    go_wp2
    repeat (go_quiet (fail); try go_wp2)
    go_loopg [13] k (fun kq v13 w' => ∃ (x13_1 : Int), v13 = .int .i64 x13_1 ∧ Aside0 (depotlaw14_texts.l0 kq l0 l1 (l0.length : Int) x13_1 = some r) ∧ Aside0 (kq ≤ k) ∧ Drawn0 w w')
    case atStart => exact ⟨(0), (by first | rfl | (simp; done) | (simp [*]; done)), H', ⟨Nat.le_refl _⟩, by repeat (first | exact Drawn0.refl _ | apply Drawn0.step)⟩
    case round =>
      clear H'
      try clear c1
      try clear c2
      try clear p2
      try clear c3
      try clear c3b0
      try clear c3b1
      try clear c3b2
      obtain ⟨x13_1, rfl, HA, HK1, ⟨m1, rfl⟩⟩ := hrel
      cases gk with
      | zero => exact absurd HA.out (by simp [depotlaw14_texts.l0])
      | succ k1 =>
        have H := HA.out
        clear HA
        simp only [depotlaw14_texts.l0] at H
        by_cases c4 : x13_1 < (l0.length : Int)
        · rw [if_pos c4] at H
          have c4b0 : decide (x13_1 < (l0.length : Int)) = true := decide_eq_true c4
          clear c4
          by_cases c5 : 0 ≤ x13_1
          · rw [if_pos c5] at H
            have c5b0 : decide (0 ≤ x13_1) = true := decide_eq_true c5
            clear c5
            by_cases c6 : x13_1 < (l0.length : Int)
            · rw [if_pos c6] at H
              have c6b0 : decide (x13_1 < (l0.length : Int)) = true := decide_eq_true c6
              clear c6
              by_cases c7 : x13_1 < (l1.length : Int)
              · rw [if_pos c7] at H
                have c7b0 : decide (x13_1 < (l1.length : Int)) = true := decide_eq_true c7
                clear c7
                by_cases c8 : (rdOf ByteArray.empty l0 x13_1).toList = (rdOf ByteArray.empty l1 x13_1).toList
                · rw [if_pos c8] at H
                  have c8b0 : ((rdOf ByteArray.empty l0 x13_1).toList == (rdOf ByteArray.empty l1 x13_1).toList) = true := beq_iff_eq.mpr c8
                  have c8b1 : ((rdOf ByteArray.empty l0 x13_1).toList != (rdOf ByteArray.empty l1 x13_1).toList) = false := bne_eq_false_iff_eq.mpr c8
                  clear c8
                  have H' := Aside0.mk H
                  clear H
                  have p255 : 0 ≤ (x13_1 : Int) := of_decide_eq_true (by first | (with_reducible assumption) | assumption)
                  have q255 : x13_1 < (l0.length : Int) := of_decide_eq_true (by first | (with_reducible assumption) | assumption)
                  obtain ⟨ad255, e255, hx255_0⟩ := Kd.at_string HR0.out x13_1 p255 q255
                  cases e255
                  replace p255 := eq_true p255
                  replace q255 := eq_true q255
                  have p256 : 0 ≤ (x13_1 : Int) := of_decide_eq_true (by first | (with_reducible assumption) | assumption)
                  have q256 : x13_1 < (l1.length : Int) := of_decide_eq_true (by first | (with_reducible assumption) | assumption)
                  obtain ⟨ad256, e256, hx256_0⟩ := Kd.at_string HR1.out x13_1 p256 q256
                  cases e256
                  replace p256 := eq_true p256
                  replace q256 := eq_true q256
                  go_wp2
                  repeat (go_quiet (fail); try go_wp2)
                  go_roundg k1
                  case measure => have := HK1.out; omega
                  case rel => exact ⟨(wrap64 (x13_1 + 1)), (by first | rfl | (simp; done) | (simp [*]; done)), H', ⟨by have := HK1.out; omega⟩, by repeat (first | exact Drawn0.refl _ | apply Drawn0.step)⟩
                · rw [if_neg c8] at H
                  have c8b0 : ((rdOf ByteArray.empty l0 x13_1).toList == (rdOf ByteArray.empty l1 x13_1).toList) = false := beq_eq_false_iff_ne.mpr c8
                  have c8b1 : ((rdOf ByteArray.empty l0 x13_1).toList != (rdOf ByteArray.empty l1 x13_1).toList) = true := bne_iff_ne.mpr c8
                  obtain rfl := Option.some.inj H
                  have p255 : 0 ≤ (x13_1 : Int) := of_decide_eq_true (by first | (with_reducible assumption) | assumption)
                  have q255 : x13_1 < (l0.length : Int) := of_decide_eq_true (by first | (with_reducible assumption) | assumption)
                  obtain ⟨ad255, e255, hx255_0⟩ := Kd.at_string HR0.out x13_1 p255 q255
                  cases e255
                  replace p255 := eq_true p255
                  replace q255 := eq_true q255
                  have p256 : 0 ≤ (x13_1 : Int) := of_decide_eq_true (by first | (with_reducible assumption) | assumption)
                  have q256 : x13_1 < (l1.length : Int) := of_decide_eq_true (by first | (with_reducible assumption) | assumption)
                  obtain ⟨ad256, e256, hx256_0⟩ := Kd.at_string HR1.out x13_1 p256 q256
                  cases e256
                  replace p256 := eq_true p256
                  replace q256 := eq_true q256
                  go_wp2
                  repeat (go_quiet (fail); try go_wp2)
                  go_ret
                  exact ⟨by first | rfl | (simp; done) | (simp [*]; done), by repeat (first | exact Drawn0.refl _ | apply Drawn0.step)⟩
              · rw [if_neg c7] at H
                exact absurd H (by simp)
            · rw [if_neg c6] at H
              exact absurd H (by simp)
          · rw [if_neg c5] at H
            exact absurd H (by simp)
        · rw [if_neg c4] at H
          have c4b0 : decide (x13_1 < (l0.length : Int)) = false := decide_eq_false c4
          clear c4
          obtain rfl := Option.some.inj H
          go_wp2
          repeat (go_quiet (fail); try go_wp2)
          go_ret
          exact ⟨by first | rfl | (simp; done) | (simp [*]; done), by repeat (first | exact Drawn0.refl _ | apply Drawn0.step)⟩
  · rw [if_neg c3] at H
    have c3b0 : ((l0.length : Int) == (l1.length : Int)) = false := beq_eq_false_iff_ne.mpr c3
    have c3b1 : ((l0.length : Int) != (l1.length : Int)) = true := bne_iff_ne.mpr c3
    have c3b2 : (l0.length == l1.length) = false := by first | simpa using c3 | (simp at c3 ⊢; omega)
    obtain rfl := Option.some.inj H
    go_enter Try.func20, Try.ntmps20
    go_wp2
    repeat (go_quiet (fail); try go_wp2)
    go_ret
    exact ⟨by first | rfl | (simp; done) | (simp [*]; done), by repeat (first | exact Drawn0.refl _ | apply Drawn0.step)⟩

end Go.Proofs.Ytbllmpfdhcbkpaa.Q
/- The document's Within and Found; texts: in plain Lean. -/
namespace Go.Proofs.Ytbllmpfdhcbkpaa.Scan
open Go.RowKit Go.Proofs.Ytbllmpfdhcbkpaa.Q Go.Proofs.Ytbllmpfdhcbkpaa.SpathPure Go.Proofs.Ytbllmpfdhcbkpaa.Rise Go.Proofs.Ytbllmpfdhcbkpaa.Evs Go.Proofs.YtbllmpfdhcbkpaaW.PrintWords Go.Proofs.YtbllmpfdhcbkpaaW.PrintLast Go.Proofs.YtbllmpfdhcbkpaaW.PrintMore Go.Proofs.Ytbllmpfdhcbkpaa.Bytes
set_option linter.unusedVariables false
set_option linter.unusedSimpArgs false
set_option linter.unusedSectionVars false
theorem ref_within_l0 (text h : ByteArray) (hh : (bs h).length = 32) (hs : text.size ≤ 4294967000) : ∀ n i, i + n = text.size → (∀ a, a < i → ((bs text).drop a).take 32 ≠ bs h) → ∃ b : Bool, (b = true ↔ Occ (bs text) (bs h)) ∧ Ev (fun k => depotref14_Within.l0 k text h (i : Int)) b
  | 0, i, hi, hn => by
    refine ⟨false, ⟨fun e => (by cases e), fun ⟨a, e⟩ => ?_⟩, ?_⟩
    · have := win_length hh e
      rw [← size_bs] at this
      exact absurd e (hn a (by omega))
    · refine succ ?_
      simp only [depotref14_Within.l0]
      exact neg (by omega) (Ev.now _)
  | n + 1, i, hi, hn => by
    by_cases e : ((bs text).drop i).take 32 = bs h
    · refine ⟨true, ⟨fun _ => ⟨i, e⟩, fun _ => rfl⟩, ?_⟩
      refine succ ?_
      simp only [depotref14_Within.l0]
      exact pos (by omega) (call (ref_at text h hh hs i (by omega)) (pos (decide_eq_true e) (Ev.now _)))
    · obtain ⟨b, h1, h2⟩ := ref_within_l0 text h hh hs n (i + 1) (by omega) (fun a ha => by
        rcases Nat.lt_or_eq_of_le (Nat.le_of_lt_succ ha) with h | h
        · exact hn a h
        · rw [h]; exact e)
      refine ⟨b, h1, ?_⟩
      refine succ ?_
      simp only [depotref14_Within.l0]
      refine pos (by omega) (call (ref_at text h hh hs i (by omega)) (neg (by rw [decide_eq_true_eq]; exact e) ?_))
      rw [wr i (by omega)]
      exact h2
theorem within_ev {α : Type} {text h : ByteArray} {r : α} {A B : Nat → Option α} (hh : (bs h).length = 32) (hs : text.size ≤ 4294967000) (hA : Occ (bs text) (bs h) → Ev A r) (hB : ¬ Occ (bs text) (bs h) → Ev B r) :
    Ev (fun k => (depotref14_Within.f k text h).bind fun t => if t = true then A k else B k) r := by
  obtain ⟨b, h1, h2⟩ := ref_within_l0 text h hh hs text.size 0 (by omega) (fun a ha => by omega)
  refine Ev.bind (a := b) h2 ?_
  cases b with
  | true => exact pos rfl (hA (h1.1 rfl))
  | false => exact neg Bool.false_ne_true (hB (fun h => Bool.false_ne_true (h1.2 h)))
theorem mid_ev {α : Type} {text h cur : ByteArray} {r : α} {A B : Nat → Option α} {P : Prop} (hh : (bs h).length = 32) (hs : text.size ≤ 4294967000) (hP : Occ (bs text) (bs h) ↔ P) (hA : P → (cur.toList = [] ∨ Rise.Lt h cur) → Ev A r) (hB : (¬ P ∨ (cur.toList ≠ [] ∧ ¬ Rise.Lt h cur)) → Ev B r) :
    Ev (fun k => if cur.toList = ([] : List UInt8) then ((depotref14_Within.f k text h).bind fun t => if t = true then A k else B k) else (if (Op.bytesLess h.toList cur.toList) = true then ((depotref14_Within.f k text h).bind fun t => if t = true then A k else B k) else B k)) r := by
  by_cases hc : cur.toList = []
  · exact pos hc (within_ev hh hs (fun h => hA (hP.1 h) (Or.inl hc)) (fun h => hB (Or.inl (fun k => h (hP.2 k)))))
  · refine neg hc ?_
    by_cases hl : Op.bytesLess h.toList cur.toList = true
    · exact pos hl (within_ev hh hs (fun h => hA (hP.1 h) (Or.inr hl)) (fun h => hB (Or.inl (fun k => h (hP.2 k)))))
    · exact neg hl (hB (Or.inr ⟨hc, hl⟩))
/-- What stands behind the last that was told. -/
theorem behind {L : List ByteArray} (hL : Sorted L) {j : Nat} (hj : j ≤ L.length) {x : ByteArray} (hx : x ∈ L) : x ∈ L.drop j ↔ j = 0 ∨ ∃ (h : j - 1 < L.length), Rise.Lt L[j - 1] x := by
  obtain ⟨k, hk, e⟩ := List.getElem_of_mem hx
  have hlt := List.pairwise_iff_getElem.1 hL
  constructor
  · intro h
    rcases Nat.eq_zero_or_pos j with h0 | h0
    · exact Or.inl h0
    · obtain ⟨i, hi, e2⟩ := List.getElem_of_mem h
      rw [List.getElem_drop] at e2
      rw [List.length_drop] at hi
      refine Or.inr ⟨by omega, ?_⟩
      rw [← e2]
      exact hlt _ _ _ _ (by omega)
  · rintro (h | ⟨h, hl⟩)
    · rw [h, List.drop_zero]
      exact hx
    · by_cases hkj : j ≤ k
      · have : x = (L.drop j)[k - j]'(by rw [List.length_drop]; omega) := by
          rw [List.getElem_drop, ← e]
          congr 1
          omega
        rw [this]
        exact List.getElem_mem _
      · exfalso
        rw [← e] at hl
        rcases Nat.lt_or_ge k (j - 1) with hh | hh
        · exact lt_asymm hl (hlt _ _ hk h hh)
        · obtain rfl : k = j - 1 := by omega
          exact lt_irr _ hl
/-- The least so far. -/
def Least (hashes L : List ByteArray) (j i : Nat) (cur : ByteArray) : Prop := (cur = ⟨#[]⟩ ∧ ∀ h ∈ hashes.take i, h ∉ L.drop j) ∨ (cur ∈ L.drop j ∧ ∀ h ∈ hashes.take i, h ∈ L.drop j → ¬ Rise.Lt h cur)
theorem Least.skip {hashes L : List ByteArray} {j i : Nat} {cur x : ByteArray} (h : Least hashes L j i cur) (hx : hashes[i]? = some x) (hs : x ∉ L.drop j ∨ (cur.toList ≠ [] ∧ ¬ Rise.Lt x cur)) : Least hashes L j (i + 1) cur := by
  rcases h with ⟨rfl, h⟩ | ⟨hc, h⟩
  · refine Or.inl ⟨rfl, fun y hy => ?_⟩
    rw [take_succ hx, List.mem_append, List.mem_singleton] at hy
    rcases hy with hy | rfl
    · exact h y hy
    · exact hs.resolve_right (fun k => k.1 (by rw [toList_bs]; rfl))
  · refine Or.inr ⟨hc, fun y hy hd => ?_⟩
    rw [take_succ hx, List.mem_append, List.mem_singleton] at hy
    rcases hy with hy | rfl
    · exact h y hy hd
    · rcases hs with hs | hs
      · exact absurd hd hs
      · exact hs.2
theorem Least.take {hashes L : List ByteArray} {j i : Nat} {cur x : ByteArray} (h : Least hashes L j i cur) (hx : hashes[i]? = some x) (hd : x ∈ L.drop j) (hs : cur.toList = [] ∨ Rise.Lt x cur) (hne : ∀ y ∈ L, y.toList ≠ []) : Least hashes L j (i + 1) x := by
  refine Or.inr ⟨hd, fun y hy hdy => ?_⟩
  rw [take_succ hx, List.mem_append, List.mem_singleton] at hy
  rcases hy with hy | rfl
  · rcases h with ⟨rfl, h⟩ | ⟨hc, h⟩
    · exact absurd hdy (h y hy)
    · rcases hs with hs | hs
      · exact absurd hs (hne cur (List.mem_of_mem_drop hc))
      · exact fun k => h y hy hdy (lt_trans k hs)
  · exact lt_irr _
section
variable (hashes : List ByteArray) (text : ByteArray) (L : List ByteArray) (hok : ∀ h ∈ hashes, (bs h).length = 32) (hl : hashes.length ≤ 1099511627776) (hs : text.size ≤ 4294967000) (hL : Sorted L) (hm : ∀ x, x ∈ L ↔ x ∈ hashes ∧ Occ (bs text) (bs x))
include hok hl hs hL hm
theorem len_L : L.length ≤ hashes.length := len_sub L hashes (by
  refine List.Pairwise.imp (fun {a b} h => ?_) hL
  rintro rfl
  exact lt_irr a h) (fun x hx => ((hm x).1 hx).1)
theorem ref_found_l1 (j : Nat) (hj : j ≤ L.length) (next : j < L.length → Ev (fun k => depotref14_Found.l0 k hashes text (L.take (j + 1))) L) : ∀ (d i : Nat) (cur : ByteArray), i + d = hashes.length → Least hashes L j i cur → Ev (fun k => depotref14_Found.l1 k hashes text (L.take j) cur (i : Int)) L
  | 0, i, cur, hi, hI => by
    have hll := len_L hashes text L hok hl hs hL hm
    refine succ ?_
    simp only [depotref14_Found.l1]
    refine neg (by omega) ?_
    obtain rfl : i = hashes.length := by omega
    rcases hI with ⟨rfl, h⟩ | ⟨hc, h⟩
    · refine pos (by rw [toList_bs]; rfl) ?_
      have : L.drop j = [] := by
        cases hd : L.drop j with
        | nil => rfl
        | cons y l =>
          have hy : y ∈ L.drop j := by rw [hd]; exact List.mem_cons_self
          have := h y (by rw [List.take_length]; exact ((hm y).1 (List.mem_of_mem_drop hy)).1)
          exact absurd hy this
      have e := List.take_append_drop j L
      rw [this, List.append_nil] at e
      exact same e.symm (Ev.now _)
    · have hmem := List.mem_of_mem_drop hc
      have hne : cur.toList ≠ [] := fun e => by
        have := hok cur ((hm cur).1 hmem).1
        rw [toList_bs] at e
        rw [e] at this
        cases this
      have hjl : j < L.length := by
        rcases Nat.lt_or_ge j L.length with h | h
        · exact h
        · rw [List.drop_of_length_le h] at hc
          cases hc
      have hd : L.drop j = L[j] :: L.drop (j + 1) := List.drop_eq_getElem_cons hjl
      have hLj : L[j] ∈ L.drop j := by rw [hd]; exact List.mem_cons_self
      have hcur : cur = L[j] := by
        rw [hd, List.mem_cons] at hc
        rcases hc with hc | hc
        · exact hc
        · exfalso
          refine h L[j] (by rw [List.take_length]; exact ((hm _).1 (List.mem_of_mem_drop hLj)).1) hLj ?_
          obtain ⟨k, hk, e⟩ := List.getElem_of_mem hc
          rw [List.getElem_drop] at e
          rw [← e]
          exact List.pairwise_iff_getElem.1 hL _ _ _ _ (by omega)
      refine neg hne (pos (by rw [List.length_take]; omega) ?_)
      have e1 : L.take j ++ [cur] = L.take (j + 1) := by rw [hcur, List.take_add_one, List.getElem?_eq_getElem hjl]; rfl
      rw [e1]
      exact next hjl
  | d + 1, i, cur, hi, hI => by
    have hll := len_L hashes text L hok hl hs hL hm
    have hlt : i < hashes.length := by omega
    have hx : hashes[i]? = some hashes[i] := List.getElem?_eq_getElem hlt
    have hr : rdOf ByteArray.empty hashes (i : Int) = hashes[i] := by rw [rd_nat, List.getD_eq_getElem?_getD, hx]; rfl
    have hxm : hashes[i] ∈ hashes := List.getElem_mem hlt
    have hne : ∀ y ∈ L, y.toList ≠ [] := fun y hy e => by
      have := hok y ((hm y).1 hy).1
      rw [toList_bs] at e
      rw [e] at this
      cases this
    obtain ⟨x, hxe⟩ : ∃ x, hashes[i] = x := ⟨_, rfl⟩
    rw [hxe] at hx hr hxm
    refine succ ?_
    simp only [depotref14_Found.l1]
    rw [hr, wr i (by omega)]
    have kA : x ∈ L.drop j → (cur.toList = [] ∨ Rise.Lt x cur) → Ev (fun k => depotref14_Found.l1 k hashes text (L.take j) x ((i + 1 : Nat) : Int)) L := fun h1 h2 => ref_found_l1 j hj next d (i + 1) x (by omega) (hI.take hx h1 h2 hne)
    have kB : (x ∉ L.drop j ∨ (cur.toList ≠ [] ∧ ¬ Rise.Lt x cur)) → Ev (fun k => depotref14_Found.l1 k hashes text (L.take j) cur ((i + 1 : Nat) : Int)) L := fun h => ref_found_l1 j hj next d (i + 1) cur (by omega) (hI.skip hx h)
    refine pos (by omega) (pos (by omega) ?_)
    have hlj : (L.take j).length = j := by rw [List.length_take]; omega
    rcases Nat.eq_zero_or_pos j with h0 | h0
    · refine pos (by rw [hlj]; omega) ?_
      refine mid_ev (hok x hxm) hs (P := x ∈ L.drop j) ?_ kA kB
      rw [h0, List.drop_zero, hm x]
      exact ⟨fun h => ⟨hxm, h⟩, fun h => h.2⟩
    · have hlast : rdOf ByteArray.empty (L.take j) (wrap64 (((L.take j).length : Int) - 1)) = L[j - 1] := by
        rw [hlj, wl j h0 (by omega), rd_nat, List.getD_eq_getElem?_getD, List.getElem?_take, if_pos (by omega), List.getElem?_eq_getElem (by omega)]
        rfl
      refine neg (by rw [hlj]; omega) ?_
      rw [hlast, hlj, wl j h0 (by omega)]
      refine pos (by omega) (pos (by omega) ?_)
      have hb : x ∈ L → (x ∈ L.drop j ↔ Rise.Lt L[j - 1] x) := fun hxL => by
        rw [behind hL hj hxL]
        constructor
        · rintro (h | ⟨_, h⟩)
          · omega
          · exact h
        · exact fun h => Or.inr ⟨by omega, h⟩
      by_cases hlt2 : Rise.Lt L[j - 1] x
      · refine pos hlt2 ?_
        refine mid_ev (hok x hxm) hs (P := x ∈ L.drop j) ?_ kA kB
        constructor
        · exact fun h => (hb ((hm x).2 ⟨hxm, h⟩)).2 hlt2
        · exact fun h => ((hm x).1 (List.mem_of_mem_drop h)).2
      · exact neg hlt2 (kB (Or.inl (fun h => hlt2 ((hb (List.mem_of_mem_drop h)).1 h))))
theorem ref_found_l0 : ∀ (d j : Nat), j + d = L.length → Ev (fun k => depotref14_Found.l0 k hashes text (L.take j)) L
  | 0, j, hj => by
    refine succ ?_
    simp only [depotref14_Found.l0]
    have := ref_found_l1 hashes text L hok hl hs hL hm j (by omega) (fun h => by omega) hashes.length 0 ⟨#[]⟩ (by omega) (Or.inl ⟨rfl, fun h hh => by rw [List.take_zero] at hh; cases hh⟩)
    exact this
  | d + 1, j, hj => by
    refine succ ?_
    simp only [depotref14_Found.l0]
    have := ref_found_l1 hashes text L hok hl hs hL hm j (by omega) (fun h => ref_found_l0 d (j + 1) (by omega)) hashes.length 0 ⟨#[]⟩ (by omega) (Or.inl ⟨rfl, fun h hh => by rw [List.take_zero] at hh; cases hh⟩)
    exact this
theorem ref_found : Ev (fun k => depotref14_Found.f k hashes text) L := by
  unfold depotref14_Found.f
  have := ref_found_l0 hashes text L hok hl hs hL hm L.length 0 (by omega)
  rwa [List.take_zero] at this
end
theorem texts_l0 (l : List ByteArray) (hl : l.length ≤ 1099511627776) (d : Nat) : ∀ i, i + d = l.length → Ev (fun k => depotlaw14_texts.l0 k l l (l.length : Int) (i : Int)) true := by
  induction d with
  | zero =>
    intro i hi
    refine succ ?_
    simp only [depotlaw14_texts.l0]
    exact neg (by omega) (Ev.now _)
  | succ d ih =>
    intro i hi
    refine succ ?_
    simp only [depotlaw14_texts.l0]
    refine pos (by omega) (pos (by omega) (pos (by omega) (pos (by omega) (pos (by first | rfl | trivial) ?_))))
    rw [wr i (by omega)]
    exact ih (i + 1) (by omega)
theorem texts_same (l : List ByteArray) (hl : l.length ≤ 1099511627776) : Ev (fun k => depotlaw14_texts.f k l l) true := by
  unfold depotlaw14_texts.f
  exact pos (by first | rfl | trivial) (texts_l0 l hl l.length 0 (by omega))
end Go.Proofs.Ytbllmpfdhcbkpaa.Scan
/- The law ScanKeeps. -/
namespace Go.Proofs.Ytbllmpfdhcbkpaa.Scan
open Go.Shelf Go.RowKit Go.Proofs.Ytbllmpfdhcbkpaa.Q Go.Proofs.Ytbllmpfdhcbkpaa.SpathPure Go.Proofs.Ytbllmpfdhcbkpaa.Rise Go.Proofs.Ytbllmpfdhcbkpaa.Tail Go.Proofs.YtbllmpfdhcbkpaaW.PrintWords Go.Proofs.YtbllmpfdhcbkpaaW.PrintLast Go.Proofs.YtbllmpfdhcbkpaaW.PrintMore Go.Proofs.Ytbllmpfdhcbkpaa.Bytes
set_option linter.unusedVariables false
set_option linter.unusedSimpArgs false
def sH20 : ByteArray := ⟨#[48, 49, 50, 51, 52, 53, 54, 55, 56, 57, 97, 98, 99, 100, 102, 103, 104, 105, 106, 107]⟩
def sT12 : ByteArray := ⟨#[108, 109, 110, 112, 113, 114, 115, 118, 119, 120, 121, 122]⟩
theorem run_h20 (W : World) : (Instr.slice 9 (.string ⟨#[48, 49, 50, 51, 52, 53, 54, 55, 56, 57, 97, 98, 99, 100, 102, 103, 104, 105, 106, 107, 108, 109, 110, 112, 113, 114, 115, 118, 119, 120, 121, 122]⟩) none (some (.int .i64 20)) none).run Try.prog W = .ok (.string ⟨#[48, 49, 50, 51, 52, 53, 54, 55, 56, 57, 97, 98, 99, 100, 102, 103, 104, 105, 106, 107]⟩) W := by
  rw [run_slice_string_h W 9 _ Try.underlying9 .i64 20 (by decide) (by decide)]
  rfl
theorem run_t12 (W : World) : (Instr.slice 9 (.string ⟨#[48, 49, 50, 51, 52, 53, 54, 55, 56, 57, 97, 98, 99, 100, 102, 103, 104, 105, 106, 107, 108, 109, 110, 112, 113, 114, 115, 118, 119, 120, 121, 122]⟩) (some (.int .i64 20)) none none).run Try.prog W = .ok (.string sT12) W := by
  rw [run_slice_string_l W 9 _ Try.underlying9 .i64 20 (by decide) (by decide)]
  rfl
theorem h20_t12 : bs sH20 ++ bs sT12 = bs sOne := by decide +kernel
theorem two_new12 (w : World) (base b1 : Nat) (h : Scn w base b1 [sOne, sTwo] []) (hb : base ≤ w.heap.size) :
    Calls Try.prog 16 #[.string ⟨#[48, 49, 50, 51, 52, 53, 54, 55, 56, 57, 97, 98, 99, 100, 102, 103, 104, 105, 106, 107, 108, 109, 110, 112, 113, 114, 115, 118, 119, 120, 121, 122]⟩, .string ⟨#[49, 49, 49, 49, 49, 49, 49, 49, 49, 49, 49, 49, 49, 49, 49, 49, 49, 49, 49, 49, 49, 49, 49, 49, 49, 49, 49, 49, 49, 49, 49, 49]⟩] w fun e w' => ∃ b2, e = .returned (.tuple #[.pointer (some ⟨b2, 0, none⟩), .int .i64 0]) ∧ Two w' base b1 b2 (fun g => g < base ∨ w'.heap.size ≤ g) [sOne, sTwo] [] sOne sTwo [] [] ∧ Below w.heap.size w w' :=
  two_new w base b1 [sOne, sTwo] sOne sTwo h hb (by decide) (by decide) wanted2_ok
theorem nums_get (T : ByteArray) (j : Nat) (x : UInt8) (h : (bs T)[j]? = some x) : (numsOf T)[j]? = some ((x.toNat : Nat) : Int) := by
  unfold numsOf
  unfold bs at h
  rw [List.getElem?_map, h]
  rfl
theorem qb_text {W : World} {g : Nat} {T : ByteArray} {l : List Int} (h : QB W g (numsOf T ++ l)) : ∀ (j : Nat) (x : UInt8), (bs T)[j]? = some x → W.cell? ⟨g, 0 + j, none⟩ = some (bc x) := fun j x hj => by
  have hlt := (List.getElem?_eq_some_iff.1 hj).1
  rw [Nat.zero_add]
  refine h.cell j _ ?_
  rw [List.getElem?_append_left (by rw [numsOf_len, size_bs]; exact hlt)]
  exact nums_get T j x hj
theorem one_str {W : World} {g : Nat} {s : ByteArray} (h : W.cell? ⟨g, 0, none⟩ = some (.string s)) : Kd.C Kd.string W (some ⟨g, 0, none⟩) 1 [s] := Kd.C_of_reads (enc := Value.string) (d := (⟨#[]⟩ : ByteArray)) (h1 := fun _ => rfl) ⟨rfl, by decide, fun _ => ⟨_, rfl, fun j hj => by
  obtain rfl : j = 0 := by omega
  rw [Addr.add_zero']
  exact h⟩⟩
theorem one_int {W : World} {g : Nat} {s : Int} (h : W.cell? ⟨g, 0, none⟩ = some (.int .i64 s)) : Kd.C (Kd.int .i64) W (some ⟨g, 0, none⟩) 1 [s] := Kd.C_of_reads (enc := Value.int .i64) (d := (0 : Int)) (h1 := fun _ => rfl) ⟨rfl, by decide, fun _ => ⟨_, rfl, fun j hj => by
  obtain rfl : j = 0 := by omega
  rw [Addr.add_zero']
  exact h⟩⟩
theorem fr_one (W : World) (g i : Nat) (u : Value) : Fr (· = g) W (W.setCell ⟨g, i, none⟩ u) := setCell_fr W g i u
set_option maxRecDepth 100000 in
set_option maxHeartbeats 16000000 in
theorem keeps14_true (w : World) (m : Int) (hm : w.cell? ⟨0, 0, none⟩ = some (.int .i64 m)) (x0 : ByteArray) (x1 : Int) (h0 : x0.size ≤ 1048576) (h1 : (Lit.int .u8 x1).wf = true) :
    Calls Try.prog 6 #[.string x0, .int .u8 x1] w fun e w' => e = .returned (.bool true) ∧ Below w.heap.size w w' := by
  have hz := mx_pos hm
  have HM := Aside0.mk hm
  have CA := Aside0.mk (awake_calls w m hm)
  have CN := Aside0.mk (new_own [sOne, sTwo] 2 rfl (fun h hh => by simp only [List.mem_cons, List.not_mem_nil, or_false] at hh; rcases hh with rfl | rfl <;> decide) (by decide) wanted_12)
  obtain ⟨T, hT⟩ : ∃ T, x0 ++ sH20 = T := ⟨_, rfl⟩
  have hbT : bs T = bs x0 ++ bs sH20 := by rw [← hT, bs_append]
  have hTs : T.size = x0.size + 20 := by rw [← hT, ByteArray.size_append]; rfl
  obtain ⟨T2, hT2⟩ : ∃ T2, x0 ++ sOne = T2 := ⟨_, rfl⟩
  have hbT2 : bs T2 = bs x0 ++ bs sOne := by rw [← hT2, bs_append]
  have hTs2 : T2.size = x0.size + 32 := by rw [← hT2, ByteArray.size_append]; rfl
  have HTT := Aside0.mk (show bs T ++ bs sT12 = bs T2 by rw [hbT, hbT2, List.append_assoc, h20_t12])
  have HO := Aside0.mk (show Occ (bs T2) (bs sOne) from ⟨x0.size, by
    rw [hbT2, size_bs, List.drop_append_of_le_length (Nat.le_refl _), List.drop_length, List.nil_append]
    decide +kernel⟩)
  obtain ⟨O, hO⟩ : ∃ O : ByteArray, (⟨(R (bs sOne) (bs sTwo) (bs T2)).toArray⟩ : ByteArray) = O := ⟨_, rfl⟩
  have hbO : R (bs sOne) (bs sTwo) (bs T2) = bs O := by rw [← hO]; exact (bs_mk _).symm
  have HOs := Aside0.mk (show O.size = T2.size by
    have := R_length (t := bs sTwo) (hash_len one_ok) (hash_len two_ok) _ (bs T2) (Nat.le_refl _)
    rw [hbO, ← size_bs, ← size_bs] at this
    exact this)
  obtain ⟨P, hP⟩ : ∃ P : List Int, zs (Pl (bs sOne) (bs T2) 0) = P := ⟨_, rfl⟩
  have hPl : P.length ≤ 1099511627776 := by
    have hpl := Pl_length (hash_len one_ok) _ (bs T2) 0 (Nat.le_refl _)
    rw [← size_bs] at hpl
    rw [← hP]
    unfold zs
    rw [List.length_map]
    omega
  obtain ⟨k2, hk2⟩ := ints_same P hPl
  have HK2 := Aside0.mk (hk2 k2 (Nat.le_refl _))
  have HPP := Aside0.mk hP
  have HPL := Aside0.mk hPl
  have HBO := Aside0.mk hbO
  have CR := Aside0.mk (fun (W : World) (hW : W.cell? ⟨0, 0, none⟩ = some (.int .i64 m)) => (show Calls Try.prog 10 #[.string T2, .string ⟨#[48, 49, 50, 51, 52, 53, 54, 55, 56, 57, 97, 98, 99, 100, 102, 103, 104, 105, 106, 107, 108, 109, 110, 112, 113, 114, 115, 118, 119, 120, 121, 122]⟩, .string ⟨#[49, 49, 49, 49, 49, 49, 49, 49, 49, 49, 49, 49, 49, 49, 49, 49, 49, 49, 49, 49, 49, 49, 49, 49, 49, 49, 49, 49, 49, 49, 49, 49]⟩] W (fun e w' => Below W.heap.size W w' ∧ ∃ v', e = .returned (.tuple #[.string O, v', .int .i64 0]) ∧ Kd.R (Kd.int .i64) 3 w' W.heap.size (fun _ => True) v' P) from
    (rewrite_calls W m T2 sOne sTwo hW (by omega) (by decide) (by decide)).mono (fun e w' h => ⟨h.1, by
      rcases h.2 with h | h
      · exact absurd wanted2_ok h.1
      · rw [hO, hP] at h
        exact h.2⟩)))
  have hcat1 : (9223372036854775807 < x0.size + 20) = False := eq_false (by omega)
  have hcat2 : (9223372036854775807 < x0.size + 32) = False := eq_false (by omega)
  obtain ⟨NN, hNN⟩ : ∃ NN : Nat, T.size + 80 = NN := ⟨_, rfl⟩
  have hNI : (T.size : Int) + 80 = (NN : Int) := by omega
  have hy : 0 ≤ x1 ∧ x1 < 256 := by
    have h2 : (decide (IntKind.u8.min ≤ x1) && decide (x1 ≤ IntKind.u8.max)) = true := h1
    simp only [Bool.and_eq_true, decide_eq_true_eq] at h2
    have e1 : IntKind.u8.min = 0 := rfl
    have e2 : IntKind.u8.max = 255 := rfl
    omega
  have rh := run_h20
  have rt := run_t12
  have TSM := Aside0.mk (show sT12.size ≤ maxLen by decide)
  unfold sH20 at hT
  unfold sOne at hT2
  have HTs := Aside0.mk (And.intro hTs hTs2)
  have hNNb : NN ≤ 2097400 := by omega
  clear hm hTs hTs2 hbT hbT2 hO hbO hP hPl hk2 h1
  go_enter Try.func6, Try.ntmps6
  go_upto_region 8 with (first
    | (go_at_call 9; ((with_reducible refine CA.out.mono ?_)); rintro e w1 ⟨rfl, hb⟩; have HB1 := Aside0.mk hb; clear hb)
    | (go_at_call 13; change Calls _ _ _ (w1.alloc (.cells #[.string sOne, .string sTwo] 9)) _; have hba := below_alloc (Below.refl w1.heap.size w1) (.cells #[.string sOne, .string sTwo] 9); have hq : SQ (w1.alloc (.cells #[.string sOne, .string sTwo] 9)) w1.heap.size 2 [sOne, sTwo] := ⟨⟨_, World.alloc_heap_new w1 _, rfl, rfl⟩, Nat.le_refl _, by decide⟩; generalize w1.alloc (.cells #[.string sOne, .string sTwo] 9) = w2 at hba hq ⊢; have HQ2 := Aside0.mk hq; have HB2 := Aside0.mk (HB1.out.trans (hba.mono HB1.out.size)); ((with_reducible refine (CN.out w2 _ hq).mono ?_)); rintro e w3 ⟨bs3, b3, hle, rfl, hs, hb⟩; have HLE := Aside0.mk (And.intro (Nat.le_trans HB2.out.size hle) (Nat.lt_of_lt_of_le hq.lt hle)); have HS3 := Aside0.mk hs; have HB3 := Aside0.mk (HB2.out.trans (hb.mono HB2.out.size)); have HQ3 := Aside0.mk (HQ2.out.below hb); clear hs hb hba hq hle)
    | (go_at_call 16; ((with_reducible refine (two_new12 w3 bs3 b3 HS3.out (by have := HS3.out.lies; omega)).mono ?_)); rintro e w4 ⟨b4, rfl, hs, hb⟩; have HW4 := Aside0.mk hs; have HB4 := Aside0.mk (HB3.out.trans (hb.mono HB3.out.size)); have HQ4 := Aside0.mk (HQ3.out.below hb); clear hs hb))
  have HW1 := Aside0.mk HB1.out.size
  obtain ⟨gh, hgh⟩ : ∃ gh, w1.heap.size = gh := ⟨_, rfl⟩
  rw [hgh] at HQ4 HW1 HLE
  simp only [hgh]
  have c0 := HQ4.out.cell 0 sOne rfl
  have c1 := HQ4.out.cell 1 sTwo rfl
  have f0 := HQ4.out.fro 0
  have f1 := HQ4.out.fro 1
  have HXh := Aside0.mk (show (fun g => g < bs3 ∨ w4.heap.size ≤ g) gh from Or.inl HLE.out.2)
  have HK5 := Aside0.mk (show Fr (fun g => g < bs3 ∨ w4.heap.size ≤ g) w4 ((w4.setCell ⟨gh, 0, none⟩ (.string ⟨#[103, 111, 110, 101]⟩)).setCell ⟨gh, 1, none⟩ (.string ⟨#[103, 111, 110, 101]⟩)) from ((fr_one w4 gh 0 _).trans (fr_one _ gh 1 _) (fun g hg => Or.inl hg)).less (fun g hg => Or.inl (by rw [hg]; exact HXh.out)))
  have HB5 := Aside0.mk (show Below w.heap.size w ((w4.setCell ⟨gh, 0, none⟩ (.string ⟨#[103, 111, 110, 101]⟩)).setCell ⟨gh, 1, none⟩ (.string ⟨#[103, 111, 110, 101]⟩)) from (HB4.out.setCell (p := ⟨gh, 0, none⟩) HW1.out _).setCell (p := ⟨gh, 1, none⟩) HW1.out _)
  have HV5 := Aside0.mk (show ((w4.setCell ⟨gh, 0, none⟩ (.string ⟨#[103, 111, 110, 101]⟩)).setCell ⟨gh, 1, none⟩ (.string ⟨#[103, 111, 110, 101]⟩)).heap.size = w4.heap.size by simp [World.setCell])
  go_upto_region 9 with fail
  generalize (w4.setCell ⟨gh, 0, none⟩ (.string ⟨#[103, 111, 110, 101]⟩)).setCell ⟨gh, 1, none⟩ (.string ⟨#[103, 111, 110, 101]⟩) = w5 at HK5 HB5 HV5 ⊢
  have HW5 := Aside0.mk (HW4.out.fr HK5.out)
  clear c0 c1 f0 f1 HK5 HXh HW4 HB4 HQ4 HQ3 HQ2 hgh
  go_wp2_with (first
    | ((with_reducible refine gate_dst (N := 53) rfl ?_); refine make_raw 5 rfl (N := 53) rfl 36 (.tmp 52) rfl NN rfl Try.underlying36 (by kernel_rfl) (by omega) rfl ?_; intro w6 hq6 hb6; have HQ6 := Aside0.mk hq6; have HB6 := Aside0.mk hb6; clear hq6 hb6)
    | ((with_reducible refine gate_builtin (b := .copy) (xs := #[.tmp 54, .tmp 55]) rfl ?_); refine copy_raw 5 rfl (.tmp 54) (.tmp 55) 36 9 rfl w5.heap.size NN NN (List.replicate NN 0) T rfl rfl Try.underlying36 (by kernel_rfl) HQ6.out (by rw [List.length_replicate]) (by omega) ?_; intro w7 hq7 hs7 hz7 hb7; have HQ7 := Aside0.mk hq7; have HB7 := Aside0.mk (hb7 w5.heap.size w5 (Nat.le_refl _) HB6.out); have HS7 := Aside0.mk hs7; clear hq7 hs7 hz7 hb7))
  have HQ0 := Aside0.mk (show QB w7 w5.heap.size (fillX T x1 0) by have := HQ7.out; rw [← hNN, fill_zero] at this; exact this)
  have HXq := Aside0.mk (show (fun g => g < bs3 ∨ w4.heap.size ≤ g) w5.heap.size from Or.inr (by have := HV5.out; omega))
  have HW7 := Aside0.mk (show Two w7 bs3 b3 b4 (· = w5.heap.size) [sOne, sTwo] [] sOne sTwo [] [] from (HW5.out.less HB7.out).only (fun g hg => by rw [hg]; exact HXq.out))
  have HB7' := Aside0.mk (HB5.out.trans (HB7.out.mono HB5.out.size))
  have hlo : w.heap.size ≤ w5.heap.size := HB5.out.size
  have HLB := Aside0.mk (show bs3 ≤ w5.heap.size by have := HW5.out.low; omega)
  have HNB := Aside0.mk (show w5.heap.size ≠ b3 ∧ w5.heap.size ≠ b4 by have := HW5.out.low; omega)
  obtain ⟨gq, hgq⟩ : ∃ gq, w5.heap.size = gq := ⟨_, rfl⟩
  rw [hgq] at HQ0 HW7 hlo HLB HNB
  simp only [hgq]
  clear HQ6 HQ7 HB6 HB7 HS7 HB1 HB2 HB3 HB5 HW5 HXq HV5 hgq
  go_loopg [12] 80 (fun g v12 wx => ∃ j : Nat, j + g = 80 ∧ v12 = .int .i64 ((T.size + j : Nat) : Int) ∧ Aside0 (QB wx gq (fillX T x1 j)) ∧ Aside0 (Two wx bs3 b3 b4 (· = gq) [sOne, sTwo] [] sOne sTwo [] []) ∧ Aside0 (Below w.heap.size w wx))
  case atStart => exact ⟨0, by omega, by rw [Nat.add_zero], HQ0, HW7, HB7'⟩
  case round =>
    obtain ⟨j, hjg, rfl, HQ, HW, HB⟩ := hrel
    cases gk with
    | succ g =>
      obtain ⟨i, hi⟩ : ∃ i, T.size + j = i := ⟨_, rfl⟩
      rw [hi]
      have d1 : decide ((i : Int) < (NN : Int)) = true := decide_eq_true (by omega)
      have hlt : i < NN := by omega
      have c1 := HQ.out.cell i ((fillX T x1 j)[i]'(by rw [fill_len T x1 j (by omega)]; omega)) (List.getElem?_eq_getElem _)
      have f1 := HQ.out.fro i
      have HQ' := Aside0.mk (HQ.out.set i x1)
      have HW' := Aside0.mk (HW.out.fr (fr_one wr gq i (.int .u8 x1)))
      have HB' := Aside0.mk (HB.out.setCell (p := ⟨gq, i, none⟩) hlo (.int .u8 x1))
      go_wp2
      go_roundg g
      case measure => omega
      case rel => exact ⟨j + 1, by omega, by first | rfl | go_num | (congr 1; omega), ⟨by have := HQ'.out; rw [← hi, fill_step T x1 j (by omega)] at this; rw [hi] at this; exact this⟩, HW', HB'⟩
    | zero =>
      obtain rfl : j = 80 := by omega
      have d1 : decide (((T.size + 80 : Nat) : Int) < (NN : Int)) = false := decide_eq_false (by omega)
      have d2 : ((T.size : Int) ≤ (NN : Int)) = True := eq_true (by omega)
      have d3 : decide ((T.size : Int) ≤ (NN : Int)) = true := decide_eq_true (by omega)
      have HTM := Aside0.mk (show T.size ≤ NN by omega)
      have HTB := Aside0.mk (show T.size ≤ 2097184 by have := HTs.out.1; omega)
      go_wp2_with (first
        | (go_at_call 14; ((with_reducible refine (two_sfeed wr bs3 b3 b4 _ _ _ _ _ _ _ HW.out (fun g hg => by rw [hg]; exact HQ.out.lt) gq 0 T.size NN (bs T) (size_bs T) HTM.out (qb_text HQ.out) HNB.out.1 (by rw [← size_bs]; have := HTB.out; omega) (by decide)).mono ?_)); rintro e w8 ⟨rfl, hs, hb, hk⟩; have HW8 := Aside0.mk hs; have HB8 := Aside0.mk (HB.out.trans (hb.mono HLE.out.1)); have HQ8 := Aside0.mk (HQ.out.kept (hk gq rfl)); clear hs hb hk)
        | (go_at_call 17; ((with_reducible refine (two_rfeed w8 bs3 b3 b4 _ m _ _ _ _ _ _ HW8.out (fun g hg => by rw [hg]; exact HQ8.out.lt) (by have := HLE.out.1; omega) (mx_below HM.out HB8.out hz) (hash_len one_ok) (hash_len two_ok) gq 0 T.size NN (bs T) (size_bs T) HTM.out (qb_text HQ8.out) HNB.out.2 (by rw [← size_bs]; have := HTB.out; omega) (by decide)).mono ?_)); rintro e w9 ⟨O1, rfl, hs, hb, hk⟩; have HW9 := Aside0.mk hs; have HB9 := Aside0.mk (HB8.out.trans (hb.mono HLE.out.1)); have HQ9 := Aside0.mk (HQ8.out.kept (hk gq rfl)); clear hs hb hk))
      have HQC : Aside0 (QB w9 gq (clrX T x1 101 0)) := ⟨by rw [clr_zero]; exact HQ9.out⟩
      clear HQ HW HB HB8 HQ8 HW8 HQ9 d1
      go_loopg [83] NN (fun g v83 wx => ∃ i : Nat, i + g = NN ∧ v83 = .int .i64 (i : Int) ∧ Aside0 (QB wx gq (clrX T x1 101 i)) ∧ Aside0 (Two wx bs3 b3 b4 (· = gq) [sOne, sTwo] ([] ++ bs T) sOne sTwo ([] ++ bs T) ([] ++ bs O1)) ∧ Aside0 (Below w.heap.size w wx))
      case atStart => exact ⟨0, by omega, rfl, HQC, HW9, HB9⟩
      case round =>
        obtain ⟨i, hig, rfl, HQ, HW, HB⟩ := hrel
        cases gk with
        | succ g =>
          have d1 : decide ((i : Int) < (NN : Int)) = true := decide_eq_true (by omega)
          have hlt : i < NN := by omega
          have hx := clr_at T x1 101 i (by omega)
          by_cases hiT : i < T.size
          · skip
            have e1 : decide ((i : Int) < (T.size : Int)) = true := decide_eq_true (by omega)
            have e2 : decide ((T.size : Int) ≤ (i : Int)) = false := decide_eq_false (by omega)
            have e3 : (T.size ≤ i) = False := eq_false (by omega)
            have e4 : (i < T.size) = True := eq_true hiT
            rw [if_pos hiT, bt_get T i hiT] at hx
            go_wp2
            refine wp_region_still_lit (by kernel_rfl) (by kernel_rfl) ?_
            change wpStill _ _ (World.drew wr) _ _ _
            obtain ⟨w8, hw8⟩ : ∃ w8, World.drew wr = w8 := ⟨_, rfl⟩
            have HQ8 := Aside0.mk (HQ.out.kept (W' := World.drew wr) rfl)
            have HW8 := Aside0.mk (HW.out.less (below_drew (Below.refl _ _)))
            have HB8 := Aside0.mk (below_drew HB.out)
            rw [hw8] at HQ8 HW8 HB8 ⊢
            have hc8 := HQ8.out.cell i _ hx
            have f1 := HQ8.out.fro i
            have HQ9 := Aside0.mk (HQ8.out.set i 101)
            have HW9 := Aside0.mk (HW8.out.fr (fr_one w8 gq i (.int .u8 101)))
            have HB9 := Aside0.mk (HB8.out.setCell (p := ⟨gq, i, none⟩) hlo (.int .u8 101))
            clear hx
            generalize hA_ : Act.mk _ _ = A_
            iterate 28 (refine wpStill_step (fun K hK => ?_); subst hA_; go_simp; generalize hA_ : Act.mk _ _ = A_; with_reducible refine hK _ ?_; clear hK K)
            refine wpStill_nil ?_
            subst hA_
            go_wp2
            go_roundg g
            case measure => omega
            case rel => exact ⟨i + 1, by omega, by first | rfl | go_num | (congr 1; omega), ⟨by have := HQ9.out; rw [clr_step T x1 101 i (by omega)] at this; exact this⟩, HW9, HB9⟩
          · skip
            have e1 : decide ((i : Int) < (T.size : Int)) = false := decide_eq_false (by omega)
            have e2 : decide ((T.size : Int) ≤ (i : Int)) = true := decide_eq_true (by omega)
            have e3 : (T.size ≤ i) = True := eq_true (by omega)
            have e4 : (i < T.size) = False := eq_false hiT
            rw [if_neg hiT] at hx
            go_wp2
            refine wp_region_still_lit (by kernel_rfl) (by kernel_rfl) ?_
            change wpStill _ _ (World.drew wr) _ _ _
            obtain ⟨w8, hw8⟩ : ∃ w8, World.drew wr = w8 := ⟨_, rfl⟩
            have HQ8 := Aside0.mk (HQ.out.kept (W' := World.drew wr) rfl)
            have HW8 := Aside0.mk (HW.out.less (below_drew (Below.refl _ _)))
            have HB8 := Aside0.mk (below_drew HB.out)
            rw [hw8] at HQ8 HW8 HB8 ⊢
            have hc8 := HQ8.out.cell i _ hx
            have f1 := HQ8.out.fro i
            have HQ9 := Aside0.mk (HQ8.out.set i 101)
            have HW9 := Aside0.mk (HW8.out.fr (fr_one w8 gq i (.int .u8 101)))
            have HB9 := Aside0.mk (HB8.out.setCell (p := ⟨gq, i, none⟩) hlo (.int .u8 101))
            clear hx
            generalize hA_ : Act.mk _ _ = A_
            iterate 28 (refine wpStill_step (fun K hK => ?_); subst hA_; go_simp; generalize hA_ : Act.mk _ _ = A_; with_reducible refine hK _ ?_; clear hK K)
            refine wpStill_nil ?_
            subst hA_
            go_wp2
            go_roundg g
            case measure => omega
            case rel => exact ⟨i + 1, by omega, by first | rfl | go_num | (congr 1; omega), ⟨by have := HQ9.out; rw [clr_step T x1 101 i (by omega)] at this; exact this⟩, HW9, HB9⟩
        | zero =>
          obtain rfl : NN = i := by omega
          have d1 : decide ((NN : Int) < (NN : Int)) = false := decide_eq_false (by omega)
          have HWn := Aside0.mk (show Two wr bs3 b3 b4 (fun _ => False) [sOne, sTwo] ([] ++ bs T) sOne sTwo ([] ++ bs T) ([] ++ bs O1) from HW.out.only (fun _ h => h.elim))
          have HTE := Aside0.mk (show ([] ++ bs T) ++ bs sT12 = bs T2 by rw [List.nil_append]; exact HTT.out)
          have HTL := Aside0.mk (show ([] ++ bs T : List UInt8).length ≤ 1099511627776 by rw [List.nil_append, ← size_bs]; have := HTB.out; omega)
          clear HW HQ
          go_upto_region 29 with (first
            | ((with_reducible refine gate_dst (N := 120) rfl ?_); refine wpList_conv rfl (N := 120) rfl (.tmp 119) rfl sT12 rfl TSM.out ?_; intro g4 c4 w4 _ hc4 hcl4 hg4 hb4; have HC4 := Aside0.mk hc4; have HCL := Aside0.mk hcl4; have HW4 := Aside0.mk (HWn.out.less hb4); have HB4 := Aside0.mk (HB.out.trans (hb4.mono HB.out.size)); have HNE := Aside0.mk (show g4 ≠ b3 from by have := HWn.out.low; omega); clear hc4 hcl4 hg4 hb4)
            | ((with_reducible refine gate_dst (N := 125) rfl ?_); refine wpList_conv rfl (N := 125) rfl (.tmp 124) rfl sT12 rfl TSM.out ?_; intro g6 c6 w6 _ hc6 hcl6 hg6 hb6; have HC6 := Aside0.mk hc6; have HCL6 := Aside0.mk hcl6; have HW6 := Aside0.mk (HW5.out.less hb6); have HB6 := Aside0.mk (HB5.out.trans (hb6.mono HB5.out.size)); have HNE6 := Aside0.mk (show g6 ≠ b4 from by have := HW5.out.low; omega); clear hc6 hcl6 hg6 hb6)
            | (go_at_call 14; ((with_reducible refine (two_sfeed w4 bs3 b3 b4 _ _ _ _ _ _ _ HW4.out (fun _ h => h.elim) g4 0 sT12.size c4 (bs sT12) (size_bs sT12) HC4.out HCL.out HNE.out (by decide) (by have := HTL.out; omega)).mono ?_)); rintro e w5 ⟨rfl, hs, hb, _⟩; rw [HTE.out] at hs; have HW5 := Aside0.mk hs; have HB5 := Aside0.mk (HB4.out.trans (hb.mono HLE.out.1)); clear hs hb)
            | (go_at_call 17; ((with_reducible refine (two_rfeed w6 bs3 b3 b4 _ m _ _ _ _ _ _ HW6.out (fun _ h => h.elim) (by have := HLE.out.1; omega) (mx_below HM.out HB6.out hz) (hash_len one_ok) (hash_len two_ok) g6 0 sT12.size c6 (bs sT12) (size_bs sT12) HC6.out HCL6.out HNE6.out (by decide) HTL.out).mono ?_)); rintro e w7 ⟨O2, rfl, hs, hb, _⟩; rw [HTE.out] at hs; have hlt := hs.told; rw [List.nil_append, ← bs_append, ← size_bs, ← size_bs, ByteArray.size_append] at hlt; have hcat7 : (9223372036854775807 < O1.size + O2.size) = False := eq_false (by have := HTs.out.2; omega); have HW7 := Aside0.mk hs; have HB7 := Aside0.mk (HB6.out.trans (hb.mono HLE.out.1)); clear hs hb hlt)
            | (go_at_call 18; ((with_reducible refine (two_close w7 bs3 b3 b4 _ _ _ _ _ _ _ HW7.out (hash_len one_ok)).mono ?_)); rintro e w8 ⟨T8, rfl, he, hs, hr, hb⟩; rw [HBO.out, List.nil_append, ← bs_append, ← bs_append] at he; have he8 := bs_inj he; have hsz8 : O1.size + O2.size + T8.size = T2.size := (by rw [← ByteArray.size_append, ← ByteArray.size_append, he8]; exact HOs.out); have hcat8 : (9223372036854775807 < O1.size + O2.size + T8.size) = False := eq_false (by have := HTs.out.2; omega); have HS8 := Aside0.mk hs; have HR8 := Aside0.mk hr; have HB8 := Aside0.mk (HB7.out.trans (hb.mono HLE.out.1)); clear hs hr hb he hsz8)
            | (go_at_call 10; ((with_reducible refine (CR.out w8 (mx_below HM.out HB8.out hz)).mono ?_)); rintro e w9 ⟨hb, v9, rfl, hr⟩; have HS9 := Aside0.mk (HS8.out.less hb); have HR9 := Aside0.mk (HR8.out.less hb); have HB9 := Aside0.mk (HB8.out.trans (hb.mono HB8.out.size)); obtain ⟨A9, c9, rfl, hc9, hC9⟩ := Kd.R_reads hr; have HC9 := Aside0.mk hC9; have HD9 := Aside0.mk hc9; clear hb hr hC9 hc9))
          clear HWn HB HW4 HB4 HC4 HCL HW5 HB5 HW6 HB6 HC6 HCL6 HW7 HB7 HS8 HR8 HB8 HNE HNE6 HTE HTL CR CN CA
          go_upto_region 31 with (first
            | (go_at_call 15; first
              | ((with_reducible refine (scn_found w9 _ _ _ _ HS9.out).mono ?_); rintro e w10 ⟨v10, L, rfl, hr, hb, hso, hme⟩; obtain ⟨l1, l2⟩ := planted hso hme HO.out; have HL := Aside0.mk (And.intro hso hme); have HR10 := Aside0.mk hr; have HB10 := Aside0.mk hb; have HS10 := Aside0.mk (HS9.out.less hb); obtain ⟨A10, c10, rfl, hc10, _⟩ := Kd.R_reads hr; have HC10 := Aside0.mk hc10; clear hr hb hso hme hc10)
              | ((with_reducible refine (scn_found w10 _ _ _ _ HS10.out).mono ?_); rintro e w11 ⟨v11, L', rfl, hr, hb, hso, hme⟩; obtain rfl : L' = L := sorted_ext hso HL.out.1 (fun x => (hme x).trans (HL.out.2 x).symm); have HR11 := Aside0.mk hr; have HB11 := Aside0.mk hb; obtain ⟨A11, c11, rfl, hc11, _⟩ := Kd.R_reads hr; have HC11 := Aside0.mk hc11; clear hr hb hso hme hc11))
            | (go_at_call 19; first
              | (have CP := (rwc_places w11 _ b4 sOne sTwo _ (HR9.out.less (HB10.out.trans (HB11.out.mono HB10.out.size))) (hash_len one_ok) (by rw [← size_bs]; have := HTs.out.2; omega)); rw [HPP.out] at CP; (with_reducible refine CP.mono ?_); rintro e w12 ⟨v12, rfl, hr, hb⟩; have HR12 := Aside0.mk hr; have HB12 := Aside0.mk hb; obtain ⟨A12, c12, rfl, hc12, _⟩ := Kd.R_reads hr; have HC12 := Aside0.mk hc12; clear hr hb CP hc12)
              | (have CP := (rwc_places w12 _ b4 sOne sTwo _ (HR9.out.less (HB10.out.trans ((HB11.out.trans (HB12.out.mono HB11.out.size)).mono HB10.out.size))) (hash_len one_ok) (by rw [← size_bs]; have := HTs.out.2; omega)); rw [HPP.out] at CP; (with_reducible refine CP.mono ?_); rintro e w13 ⟨v13, rfl, hr, hb⟩; have HR13 := Aside0.mk hr; have HB13 := Aside0.mk hb; obtain ⟨A13, c13, rfl, hc13, _⟩ := Kd.R_reads hr; have HC13 := Aside0.mk hc13; clear hr hb CP hc13)))
          have z10 := HB10.out.size
          have z11 := HB11.out.size
          have z12 := HB12.out.size
          have z13 := HB13.out.size
          have B11 := HB11.out.trans ((HB12.out.trans (HB13.out.mono z12)).mono z11)
          have B12 := HB12.out.trans (HB13.out.mono z12)
          have HST := Aside0.mk (show St w9 w10.heap.size w11.heap.size w12.heap.size w13.heap.size w13 (.slice A10 L'.length c10) (.slice A12 P.length c12) (.slice A11 L'.length c11) (.slice A13 P.length c13) L'.length P.length L' P from
            ⟨HB10.out.trans (B11.mono z10), ⟨z10, z11, z12, z13, Nat.le_refl _⟩, ⟨L', rfl, Kd.R_below (Kd.R_mono (Kd.R_bound HR10.out) (fun k hk => Or.inl ⟨hk.2.1, hk.2.2.1⟩)) B11⟩, ⟨P, rfl, Kd.R_lower (Kd.R_below (Kd.R_mono (Kd.R_bound HR12.out) (fun k hk => Or.inl ⟨hk.2.1, hk.2.2.1⟩)) HB13.out) (by omega)⟩,
              Kd.R_lower (Kd.R_below (Kd.R_mono (Kd.R_bound HR11.out) (fun k hk => ⟨hk.2.1, hk.2.2.1⟩)) B12) z10, Kd.R_lower (Kd.R_mono (Kd.R_bound HR13.out) (fun k hk => ⟨hk.2.1, hk.2.2.1⟩)) (by omega), fun k h1 h2 => by
                obtain ⟨i1, o1⟩ := Kd.R_own HR10.out
                obtain ⟨i2, o2⟩ := Kd.R_own HR12.out
                have := own_lt o1 k h1
                have := own_base o2 k h2
                omega⟩)
          have l0 : 0 < L'.length := (List.getElem?_eq_some_iff.1 l2).1
          have hL0 : L'.length ≤ 2 := by omega
          obtain ⟨kt, hkt⟩ := texts_same L' (by omega)
          have HKT := Aside0.mk (hkt kt (Nat.le_refl _))
          have HCa := Aside0.mk (Kd.C_below (Kd.R_reads' HR10.out).2.2 B11)
          have HCb := Aside0.mk (Kd.C_below (Kd.R_reads' HR11.out).2.2 B12)
          have HCx := Aside0.mk (Kd.C_below (Kd.R_reads' HR12.out).2.2 HB13.out)
          have HCy := Aside0.mk (Kd.R_reads' HR13.out).2.2
          have HCw := Aside0.mk (Kd.C_below HC9.out (HB10.out.trans (B11.mono z10)))
          obtain ⟨ga, ca, ea, hqa, _⟩ := row_of HR10.out l0
          simp only [Value.slice.injEq, true_and] at ea
          obtain ⟨rfl, rfl⟩ := ea
          have ca0 := (hqa.below B11).cell 0 sOne l2
          have CTx := Aside0.mk (fun (W : World) (Aa Ab : Option Addr) (ca cb : Nat) (q1 : Kd.C Kd.string W Aa L'.length L') (q2 : L'.length ≤ ca) (q3 : Kd.C Kd.string W Ab L'.length L') (q4 : L'.length ≤ cb) => depotlaw14_texts.calls kt Aa ca L' Ab cb L' true W q1 q2 q3 q4 HKT.out)
          have CIx := Aside0.mk (fun (W : World) (Aa Ab : Option Addr) (ca cb : Nat) (q1 : Kd.C (Kd.int .i64) W Aa P.length P) (q2 : P.length ≤ ca) (q3 : Kd.C (Kd.int .i64) W Ab P.length P) (q4 : P.length ≤ cb) => depotlaw14_ints.calls k2 Aa ca P Ab cb P true W q1 q2 q3 q4 HK2.out)
          obtain ⟨n, hn⟩ : ∃ n, L'.length = n := ⟨_, rfl⟩
          obtain ⟨np, hnp⟩ : ∃ np, P.length = np := ⟨_, rfl⟩
          have HL2 := Aside0.mk l2
          have HNn := Aside0.mk hn
          have HNp := Aside0.mk hnp
          rw [hn] at HST l0 hL0 HC10 HC11 HCa HCb CTx
          rw [hnp] at HST HC12 HC13 HCx HCy HCw HD9 HC9 CIx
          have HB13' := Aside0.mk (HB9.out.trans ((HB10.out.trans (B11.mono z10)).mono HB9.out.size))
          have d1 : decide ((n : Int) < 1) = false := decide_eq_false (by omega)
          have d2 : decide (n < 1) = false := decide_eq_false (by omega)
          have d5 : (n = 0) = False := eq_false (by omega)
          have d6 : (0 < n) = True := eq_true (by omega)
          have HPN := Aside0.mk (show np ≤ 1099511627776 by rw [← hnp]; exact HPL.out)
          have hnn : (O.toList != O.toList) = false := by simp
          unfold sOne at ca0
          simp only [hn, hnp]
          clear HR10 HR11 HR12 HR13 HB10 HB11 HB12 HB13 B11 B12 hqa hn hnp l1 l2 hkt HS10
          go_wp2_with (first
            | (go_at_call 20; ((with_reducible refine (CTx.out w13 _ _ _ _ HCa.out HC10.out HCb.out HC11.out).mono ?_)); rintro e w14 ⟨rfl, hd⟩; have K14 := Aside0.mk hd.below; clear hd)
            | (go_at_call_has 12 (Value.slice A12 np c12); ((with_reducible refine (CIx.out w14 _ _ _ _ (Kd.C_below HCx.out K14.out) HC12.out (Kd.C_below HCw.out K14.out) HD9.out).mono ?_)); rintro e w15 ⟨rfl, hd⟩; have K15 := Aside0.mk (K14.out.trans (hd.below.mono K14.out.size)); clear hd)
            | (go_at_call_has 12 (Value.slice A13 np c13); ((with_reducible refine (CIx.out w15 _ _ _ _ (Kd.C_below HCy.out K15.out) HC13.out (Kd.C_below HCw.out K15.out) HD9.out).mono ?_)); rintro e w16 ⟨rfl, hd⟩; have K16 := Aside0.mk (K15.out.trans (hd.below.mono K15.out.size)); clear hd))
          have HS16 := Aside0.mk (HST.out.below K16.out)
          clear HST K14 K15 K16 HCa HCb HCx HCy ca0 CTx
          go_loopg [181] n (fun g v181 wx => ∃ i : Nat, i + g = n ∧ v181 = .int .i64 (i : Int) ∧ Aside0 (St w9 w10.heap.size w11.heap.size w12.heap.size w13.heap.size wx (.slice (some ⟨ga, 0, none⟩) n c10) (.slice A12 np c12) (.slice A11 n c11) (.slice A13 np c13) n np L' P))
          case atStart => exact ⟨0, by omega, rfl, HS16⟩
          case round =>
            obtain ⟨i, hig, rfl, HS⟩ := hrel
            cases gk with
            | succ g =>
              have q1 : decide ((i : Int) < (n : Int)) = true := decide_eq_true (by omega)
              have hlt : i < n := by omega
              obtain ⟨⟨o_, c1⟩, f1, hs⟩ := HS.out.setA (u := ⟨#[115, 112, 111, 105, 108, 116]⟩) hlt
              have HS' := Aside0.mk hs
              clear hs
              go_wp2
              go_roundg g
              case measure => omega
              case rel => exact ⟨i + 1, by omega, by first | rfl | go_num | (congr 1; omega), HS'⟩
            | zero =>
              obtain rfl : n = i := by omega
              have q1 : decide ((n : Int) < (n : Int)) = false := decide_eq_false (by omega)
              have hpn : np ≤ 1099511627776 := HPN.out
              go_wp2
              go_loopg [190] np (fun g v190 wx => ∃ i : Nat, i + g = np ∧ v190 = .int .i64 (i : Int) ∧ Aside0 (St w9 w10.heap.size w11.heap.size w12.heap.size w13.heap.size wx (.slice (some ⟨ga, 0, none⟩) n c10) (.slice A12 np c12) (.slice A11 n c11) (.slice A13 np c13) n np L' P))
              case atStart => exact ⟨0, by omega, rfl, HS⟩
              case round =>
                obtain ⟨i, hig, rfl, HS⟩ := hrel
                cases gk with
                | succ g =>
                  have q1 : decide ((i : Int) < (np : Int)) = true := decide_eq_true (by omega)
                  have hlt : i < np := by omega
                  obtain ⟨gx, cx, ex⟩ := HS.out.xslice (by omega)
                  simp only [Value.slice.injEq, true_and] at ex
                  obtain ⟨rfl, rfl⟩ := ex
                  obtain ⟨⟨o_, c1⟩, f1, hs⟩ := HS.out.setX (u := -1) hlt
                  have HS' := Aside0.mk hs
                  clear hs
                  go_wp2
                  go_roundg g
                  case measure => omega
                  case rel => exact ⟨i + 1, by omega, by first | rfl | go_num | (congr 1; omega), HS'⟩
                | zero =>
                  obtain rfl : np = i := by omega
                  have q1 : decide ((np : Int) < (np : Int)) = false := decide_eq_false (by omega)
                  go_wp2
                  go_loopg [18, 20, 24] 10 (fun g v18 v20 v24 wx => ∃ i : Nat, i + g = 10 ∧ v24 = .int .i64 (i : Int) ∧ Aside0 (St w9 w10.heap.size w11.heap.size w12.heap.size w13.heap.size wx v18 v20 (.slice A11 n c11) (.slice A13 np c13) (n + i) (np + i) L' P))
                  case atStart => exact ⟨0, by omega, rfl, HS⟩
                  case round =>
                    obtain ⟨i, hig, rfl, HS⟩ := hrel
                    cases gk with
                    | succ g =>
                      have q1 : decide ((i : Int) < 10) = true := decide_eq_true (by omega)
                      go_wp2_with (first
                        | ((with_reducible refine gate_builtin (b := .append) (xs := #[.tmp 201, .tmp 202]) rfl ?_); at_builtin; generalize hW14 : World.alloc wr _ = w14; have hb14 := below_alloc1 hW14; have HS14 := Aside0.mk (HS.out.below hb14); obtain ⟨L4, e4, hr4⟩ := HS14.out.ra; have hc4 : w14.cell? ⟨wr.heap.size, 0, none⟩ = some (.string ⟨#[109, 111, 114, 101]⟩) := (by rw [← hW14]; unfold World.cell?; rw [heap_alloc_new]; rfl); refine Kd.R_append_row Value.string (⟨#[]⟩ : ByteArray) (h1 := fun _ => rfl) (w0 := w9) w9.heap.size rfl (.tmp 201) (.tmp 202) 34 9 (.string ⟨#[]⟩) 16 rfl Try.underlying34 (by kernel_rfl) rfl (by decide) _ L4 [⟨#[109, 111, 114, 101]⟩] (some ⟨wr.heap.size, 0, none⟩) 1 1 _ rfl rfl (fun k hk => Or.inr (Nat.le_trans HS14.out.sz.2.2.2.2 hk)) hr4 (one_str hc4) HS14.out.bel HS14.out.bel.size (by omega) ?_; intro v15 w15 hr15 hb15 hg15 hat15; have HS15 := Aside0.mk (HS14.out.appA hr15 e4 hb15 hg15 hat15); clear hr15 hb15 hg15 hat15 hc4 hr4 e4 hW14 hb14)
                        | ((with_reducible refine gate_builtin (b := .append) (xs := #[.tmp 204, .tmp 205]) rfl ?_); at_builtin; generalize hW14 : World.alloc w15 _ = w16; have hb14 := below_alloc1 hW14; have HS16 := Aside0.mk (HS15.out.below hb14); obtain ⟨L4, e4, hr4⟩ := HS16.out.rx; have hc4 : w16.cell? ⟨w15.heap.size, 0, none⟩ = some (.int .i64 (-2)) := (by rw [← hW14]; unfold World.cell?; rw [heap_alloc_new]; rfl); refine Kd.R_append_row (Value.int .i64) (0 : Int) (h1 := fun _ => rfl) (w0 := w9) w9.heap.size rfl (.tmp 204) (.tmp 205) 23 3 (.int .i64 0) 8 rfl Try.underlying23 (by kernel_rfl) rfl (by decide) _ L4 [-2] (some ⟨w15.heap.size, 0, none⟩) 1 1 _ rfl rfl (fun k hk => Or.inr (Nat.le_trans HS16.out.sz.2.2.2.2 hk)) hr4 (one_int hc4) HS16.out.bel HS16.out.bel.size (by have := HPN.out; omega) ?_; intro v17 w17 hr15 hb15 hg15 hat15; have HS17 := Aside0.mk (HS16.out.appX hr15 e4 hb15 hg15 hat15); clear hr15 hb15 hg15 hat15 hc4 hr4 e4 hW14 hb14))
                      go_roundg g
                      case measure => omega
                      case rel => exact ⟨i + 1, by omega, by first | rfl | go_num | (congr 1; omega), HS17⟩
                    | zero =>
                      obtain rfl : i = 10 := by omega
                      have q1 : decide ((10 : Int) < 10) = false := by decide
                      have hbb := HS.out.rb
                      obtain ⟨gb, cb, eb, hqb, _⟩ := row_of hbb (by rw [HNn.out]; exact l0)
                      simp only [Value.slice.injEq, HNn.out, true_and] at eb
                      obtain ⟨rfl, rfl⟩ := eb
                      have cb0 := hqb.cell 0 sOne HL2.out
                      unfold sOne at cb0
                      have HSa := Aside0.mk (HS9.out.less HS.out.bel)
                      have HRa := Aside0.mk (HR9.out.less HS.out.bel)
                      have HCy := Aside0.mk (Kd.R_reads' HS.out.ry).2.2
                      have HCw2 := Aside0.mk (Kd.C_below HC9.out HS.out.bel)
                      have HBw := Aside0.mk (HB9.out.trans (HS.out.bel.mono HB9.out.size))
                      clear hbb hqb
                      go_wp2_with (first
                        | (go_at_call_has 12 (Value.slice A13 np c13); ((with_reducible refine (CIx.out wr _ _ _ _ (by have h_ := HCy.out; rw [HNp.out] at h_; exact h_) HC13.out HCw2.out HD9.out).mono ?_)); rintro e w20 ⟨rfl, hd⟩; have K20 := Aside0.mk hd.below; clear hd)
                        | (go_at_call 19; have CP := (rwc_places w20 _ b4 sOne sTwo _ (HRa.out.less K20.out) (hash_len one_ok) (by rw [← size_bs]; have := HTs.out.2; omega)); rw [HPP.out] at CP; (with_reducible refine CP.mono ?_); rintro e w21 ⟨v21, rfl, hr, hb⟩; have K21 := Aside0.mk (K20.out.trans (hb.mono K20.out.size)); obtain ⟨A21, c21, rfl, hc21, hC21⟩ := Kd.R_reads hr; rw [HNp.out] at hc21 hC21 ⊢; have HC21 := Aside0.mk hC21; have HD21 := Aside0.mk hc21; clear hr hb CP hc21 hC21)
                        | (go_at_call_has 12 (Value.slice A21 np c21); ((with_reducible refine (CIx.out w21 _ _ _ _ HC21.out HD21.out (Kd.C_below HCw2.out K21.out) HD9.out).mono ?_)); rintro e w22 ⟨rfl, hd⟩; have K22 := Aside0.mk (K21.out.trans (hd.below.mono K21.out.size)); clear hd)
                        | (go_at_call 15; (with_reducible refine (scn_found w22 _ _ _ _ (HSa.out.less K22.out)).mono ?_); rintro e w23 ⟨v23, L2, rfl, hr, hb, hso, hme⟩; obtain rfl : L2 = L' := sorted_ext hso HL.out.1 (fun x => (hme x).trans (HL.out.2 x).symm); have K23 := Aside0.mk (K22.out.trans (hb.mono K22.out.size)); obtain ⟨A23, c23, rfl, hc23, hC23⟩ := Kd.R_reads hr; rw [HNn.out]; clear hr hb hso hme hc23 hC23))
                      go_ret
                      exact ⟨rfl, HBw.out.trans (K23.out.mono HBw.out.size)⟩
end Go.Proofs.Ytbllmpfdhcbkpaa.Scan
/- What came in, opened by its kind: a reading of a value ys data gives the Lean value of the print's kinds, with its sizes. For rows over slices and structs. -/
set_option linter.unusedVariables false
set_option linter.unusedSimpArgs false
namespace Go.Proofs.Ytbllmpfdhcbkpaa.Opens
open Go.RowKit Go.Deep Go.Proofs.YtbllmpfdhcbkpaaW.PrintWords

section
variable {α β : Type}
/-- A reading at type t gives a value of kind d: its cells (K), its weights (each no more than one of the datum's, or 0), its bulk, and what is good about its numbers. -/
structure Opens (P : Program) (t : TypeId) (d : Kd α) (Wt : α → List Nat) (Bk : α → Nat) (Gd : α → Prop) : Prop where
  sz : P.cellsOf t = d.sz
  out : ∀ {H : Type} {enc : TypeId × Value → H} {w : World} {base : Nat} {spare : Nat → Bool} {held : Bool} {fuel : Nat} {cs : List Value} {x : DataW H × List MemPlace},
    DataW.trod enc P w base spare held fuel t cs = some x → ∃ a, d.K w a cs ∧ (∀ n ∈ Wt a, n = 0 ∨ ∃ m ∈ x.1.weights P t, n ≤ m) ∧ Bk a ≤ Rows.uptoBulk x.1 ∧ Gd a

variable {P : Program} {t : TypeId}
theorem opens_string (ht : P.underlying t = some .string) (hs : P.cellsOf t = 1) : Opens P t Kd.string (fun s => [s.size]) (fun s => s.size + 1) (fun s => s.size ≤ maxLen) := by
  refine ⟨hs, fun {H enc w base spare held fuel cs x} h => ?_⟩
  obtain ⟨s, rfl, rfl, hw⟩ := DataW.trod_string ht h
  refine ⟨s, rfl, ?_, ?_, hw⟩
  · intro n hn
    rw [List.mem_singleton] at hn
    refine .inr ⟨s.data.toList.length, by rw [DataW.weights]; exact List.mem_singleton.2 rfl, ?_⟩
    rw [hn, Array.length_toList]
    exact Nat.le_refl _
  · rw [Rows.uptoBulk, Array.length_toList]
    exact Nat.le_refl _
theorem opens_bool (ht : P.underlying t = some .bool) (hs : P.cellsOf t = 1) : Opens P t Kd.bool (fun _ => []) (fun _ => 1) (fun _ => True) := by
  refine ⟨hs, fun {H enc w base spare held fuel cs x} h => ?_⟩
  obtain ⟨b, rfl, rfl⟩ := DataW.trod_bool ht h
  exact ⟨b, rfl, fun _ h => absurd h (by simp), by rw [Rows.uptoBulk] <;> simp, trivial⟩
theorem opens_int {k : IntKind} (ht : P.underlying t = some (.int k)) (hs : P.cellsOf t = 1) : Opens P t (Kd.int k) (fun _ => []) (fun _ => 1) (fun n => (Lit.int k n).wf = true) := by
  refine ⟨hs, fun {H enc w base spare held fuel cs x} h => ?_⟩
  obtain ⟨n, rfl, rfl, hw⟩ := DataW.trod_int ht h
  exact ⟨n, rfl, fun _ h => absurd h (by simp), by rw [Rows.uptoBulk] <;> simp, hw⟩

theorem list_of {Q : Nat → α → Prop} : ∀ (n : Nat), (∀ i, i < n → ∃ a, Q i a) → ∃ ys : List α, ys.length = n ∧ ∀ i a, ys[i]? = some a → Q i a
  | 0, _ => ⟨[], rfl, fun i a h => by simp at h⟩
  | n + 1, h => by
    obtain ⟨ys, hl, hq⟩ := list_of n (fun i hi => h i (by omega))
    obtain ⟨a, ha⟩ := h n (by omega)
    refine ⟨ys ++ [a], by simp [hl], fun i b hb => ?_⟩
    rcases Nat.lt_or_ge i n with hi | hi
    · rw [List.getElem?_append_left (by omega)] at hb
      exact hq i b hb
    · have : i < (ys ++ [a]).length := (List.getElem?_eq_some_iff.1 hb).1
      simp [hl] at this
      have e : i = n := by omega
      subst e
      rw [List.getElem?_append_right (by omega), hl, Nat.sub_self] at hb
      simp at hb
      subst hb
      exact ha
theorem sum_le_range (ys : List α) (Bk : α → Nat) (b : Nat → Nat) (h : ∀ i a, ys[i]? = some a → Bk a ≤ b i) : (ys.map Bk).sum ≤ ((List.range ys.length).map b).sum := by
  induction ys generalizing b with
  | nil => simp
  | cons a ys ih =>
    have h0 := h 0 a rfl
    have h1 := ih (fun i => b (i + 1)) (fun i a ha => h (i + 1) a (by simpa using ha))
    rw [List.length_cons, List.range_succ_eq_map, List.map_cons, List.sum_cons, List.map_cons, List.sum_cons, List.map_map]
    have e : (List.map (b ∘ Nat.succ) (List.range ys.length)) = List.map (fun i => b (i + 1)) (List.range ys.length) := rfl
    rw [e]
    omega
theorem bulkAll_sum {H : Type} (l : List (DataW H)) : Rows.uptoBulkAll l = (l.map Rows.uptoBulk).sum := by
  induction l with
  | nil => rfl
  | cons d l ih => rw [Rows.uptoBulkAll, ih, List.map_cons, List.sum_cons]
theorem weightsAll_mem {H : Type} {e : TypeId} : ∀ (l : List (DataW H)) (d : DataW H), d ∈ l → ∀ m ∈ d.weights P e, m ∈ DataW.weightsAll P e l
  | [], d, h => absurd h (by simp)
  | d' :: l, d, h => by
    intro m hm
    rw [DataW.weightsAll, List.mem_append]
    rcases List.mem_cons.1 h with rfl | h
    · exact .inl hm
    · exact .inr (weightsAll_mem l d h m hm)

theorem opens_slice {e : TypeId} {d : Kd α} {Wt : α → List Nat} {Bk : α → Nat} {Gd : α → Prop} (ht : P.underlying t = some (.slice e)) (hs : P.cellsOf t = 1) (he : Opens P e d Wt Bk Gd) :
    Opens P t (Kd.slice e d) (fun xs => (xs.length * P.bytesOf e) :: xs.flatMap Wt) (fun xs => (xs.map Bk).sum + 1) (fun xs => xs.length ≤ maxLen ∧ ∀ x ∈ xs, Gd x) := by
  refine ⟨hs, fun {H enc w base spare held fuel cs x} h => ?_⟩
  rcases open_slice ht h with ⟨rfl, rfl⟩ | ⟨a, len, cap, m, n, D, Pl, rfl, hb, hl, hm, hmm, rfl, hx⟩
  · exact ⟨[], ⟨none, 0, rfl, Nat.le_refl _, Kd.C_nil d w⟩, fun n hn => .inl (by simpa using hn), by rw [Rows.uptoBulk]; simp, by simp, by simp⟩
  · have hlm : len ≤ m := by rw [hmm]; split <;> omega
    have each : ∀ i, i < len → ∃ b : α, (∃ cs', w.cells? base (a.add (i * P.cellsOf e)) (P.cellsOf e) = some cs' ∧ d.K w b cs') ∧ (∀ q ∈ Wt b, q = 0 ∨ ∃ r ∈ (D i).weights P e, q ≤ r) ∧ Bk b ≤ Rows.uptoBulk (D i) ∧ Gd b := by
      intro i hi
      obtain ⟨cs', h1, h2⟩ := hx i (by omega)
      obtain ⟨b, hK, hw, hk, hg⟩ := he.out h2
      exact ⟨b, ⟨cs', h1, hK⟩, hw, hk, hg⟩
    obtain ⟨ys, hal, has⟩ := list_of len each
    subst hal
    refine ⟨ys, ⟨some a, cap, rfl, hl, rfl, by unfold maxLen at hm; omega, fun hp => ⟨a, rfl, fun j p hj => ?_⟩⟩, ?_, ?_, by omega, ?_⟩
    · obtain ⟨⟨cs', h1, hK⟩, _⟩ := has j p hj
      refine ⟨cs', d.K_len hK, hK, fun i u hu => ?_⟩
      have hc := World.cells?_some h1
      rw [he.sz] at hc
      obtain ⟨hc0, hc1, hc2⟩ := hc
      have hi : i < d.sz := by rw [← d.K_len hK]; exact (List.getElem?_eq_some_iff.1 hu).1
      have := hc2 i (by omega)
      rw [hu] at this
      rw [Go.Deep.add_add] at this
      exact this
    · intro q hq
      rw [List.mem_cons, List.mem_flatMap] at hq
      have hwt : (DataW.slice ((List.range ys.length).map D) ((List.range (m - ys.length)).map fun j => D (ys.length + j)) : DataW H).weights P t = (((List.range ys.length).map D).length + ((List.range (m - ys.length)).map fun j => D (ys.length + j)).length) * P.bytesOf e :: (DataW.weightsAll P e ((List.range ys.length).map D) ++ DataW.weightsAll P e ((List.range (m - ys.length)).map fun j => D (ys.length + j))) := by
        rw [DataW.weights, ht]
      show q = 0 ∨ ∃ r ∈ (DataW.slice ((List.range ys.length).map D) ((List.range (m - ys.length)).map fun j => D (ys.length + j)) : DataW H).weights P t, q ≤ r
      rw [hwt]
      rcases hq with rfl | ⟨b, hbm, hq⟩
      · refine .inr ⟨_, List.mem_cons_self, ?_⟩
        refine Nat.mul_le_mul_right _ ?_
        simp
      · obtain ⟨i, hi⟩ := List.getElem?_of_mem hbm
        have hil : i < ys.length := (List.getElem?_eq_some_iff.1 hi).1
        obtain ⟨_, hw, _⟩ := has i b hi
        rcases hw q hq with h0 | ⟨r, hr, hqr⟩
        · exact .inl h0
        · exact .inr ⟨r, List.mem_cons_of_mem _ (List.mem_append_left _ (weightsAll_mem _ (D i) (List.mem_map.2 ⟨i, List.mem_range.2 hil, rfl⟩) r hr)), hqr⟩
    · show _ ≤ Rows.uptoBulk (DataW.slice ((List.range ys.length).map D) ((List.range (m - ys.length)).map fun j => D (ys.length + j)) : DataW H)
      rw [Rows.uptoBulk, bulkAll_sum, List.map_map]
      have := sum_le_range ys Bk (fun i => Rows.uptoBulk (D i)) (fun i b hb => (has i b hb).2.2.1)
      have e2 : (List.map (Rows.uptoBulk ∘ D) (List.range ys.length)) = List.map (fun i => Rows.uptoBulk (D i)) (List.range ys.length) := rfl
      rw [e2]
      omega
    · intro b hbm
      obtain ⟨i, hi⟩ := List.getElem?_of_mem hbm
      exact (has i b hi).2.2.2

/-- Fields, from a place on. -/
structure OpensF (P : Program) (fs : List Field) (off : Nat) (d : Kd α) (Wt : α → List Nat) (Bk : α → Nat) (Gd : α → Prop) : Prop where
  out : ∀ {H : Type} {enc : TypeId × Value → H} {w : World} {base : Nat} {spare : Nat → Bool} {held : Bool} {fuel : Nat} {cs : List Value} {xs : List (DataW H × List MemPlace)},
    cs.length = off + d.sz → xs.length = fs.length → (∀ (i : Nat) (f : Field), fs[i]? = some f → DataW.trod enc P w base spare held fuel f.type ((cs.drop f.offset).take (P.cellsOf f.type)) = xs[i]?) →
    ∃ a, d.K w a (cs.drop off) ∧ (∀ n ∈ Wt a, n = 0 ∨ ∃ m ∈ DataW.weightsEach P (fs.map (·.type)) (xs.map (·.1)), n ≤ m) ∧ Bk a ≤ Rows.uptoBulkAll (xs.map (·.1)) ∧ Gd a
theorem opensF_one {f : Field} {off : Nat} {d : Kd α} {Wt : α → List Nat} {Bk : α → Nat} {Gd : α → Prop} (ho : f.offset = off) (he : Opens P f.type d Wt Bk Gd) : OpensF P [f] off d Wt Bk Gd := by
  refine ⟨fun {H enc w base spare held fuel cs xs} hc hl h => ?_⟩
  match xs, hl with
  | [x], _ =>
    have h0 := h 0 f rfl
    rw [ho, he.sz, List.take_of_length_le (by rw [List.length_drop]; omega)] at h0
    obtain ⟨a, hK, hw, hb, hg⟩ := he.out h0
    refine ⟨a, hK, fun n hn => ?_, ?_, hg⟩
    · rcases hw n hn with h | ⟨m, hm, hle⟩
      · exact .inl h
      · refine .inr ⟨m, ?_, hle⟩
        simp only [List.map_cons, List.map_nil, DataW.weightsEach, List.append_nil]
        exact hm
    · simp only [List.map_cons, List.map_nil, Rows.uptoBulkAll]
      omega
theorem opensF_cons {f : Field} {fs : List Field} {off : Nat} {d : Kd α} {d' : Kd β} {Wt : α → List Nat} {Bk : α → Nat} {Gd : α → Prop} {Wt' : β → List Nat} {Bk' : β → Nat} {Gd' : β → Prop}
    (ho : f.offset = off) (he : Opens P f.type d Wt Bk Gd) (hr : OpensF P fs (off + d.sz) d' Wt' Bk' Gd') :
    OpensF P (f :: fs) off (Kd.pair d d') (fun x => Wt x.1 ++ Wt' x.2) (fun x => Bk x.1 + Bk' x.2) (fun x => Gd x.1 ∧ Gd' x.2) := by
  refine ⟨fun {H enc w base spare held fuel cs xs} hc hl h => ?_⟩
  have hsz : (Kd.pair d d').sz = d.sz + d'.sz := rfl
  rw [hsz] at hc
  match xs, hl with
  | x :: xs, hl =>
    have h0 := h 0 f rfl
    rw [ho, he.sz] at h0
    obtain ⟨a, hK, hw, hb, hg⟩ := he.out h0
    obtain ⟨b, hK', hw', hb', hg'⟩ := hr.out (enc := enc) (w := w) (base := base) (spare := spare) (held := held) (fuel := fuel) (cs := cs) (xs := xs) (by omega) (by simpa using hl) (fun i f' hf => by simpa using h (i + 1) f' (by simpa using hf))
    refine ⟨(a, b), ⟨(cs.drop off).take d.sz, cs.drop (off + d.sz), ?_, hK, hK'⟩, fun n hn => ?_, ?_, hg, hg'⟩
    · rw [← List.drop_drop, List.take_append_drop]
    · simp only [List.map_cons, DataW.weightsEach, List.mem_append]
      rcases List.mem_append.1 hn with hn | hn
      · rcases hw n hn with h | ⟨m, hm, hle⟩
        · exact .inl h
        · exact .inr ⟨m, .inl hm, hle⟩
      · rcases hw' n hn with h | ⟨m, hm, hle⟩
        · exact .inl h
        · exact .inr ⟨m, .inr hm, hle⟩
    · simp only [List.map_cons, Rows.uptoBulkAll]
      omega
theorem opens_struct {fs : Array Field} {d : Kd α} {Wt : α → List Nat} {Bk : α → Nat} {Gd : α → Prop} (ht : P.underlying t = some (.struct fs)) (hs : P.cellsOf t = d.sz) (he : OpensF P fs.toList 0 d Wt Bk Gd) :
    Opens P t d Wt (fun a => Bk a + 1) Gd := by
  refine ⟨hs, fun {H enc w base spare held fuel cs x} h => ?_⟩
  obtain ⟨xs, n, rfl, rfl, hl, hl2, hx⟩ := DataW.trod_struct ht h
  obtain ⟨a, hK, hw, hb, hg⟩ := he.out (enc := enc) (w := w) (base := base) (spare := spare) (held := held) (fuel := n) (cs := cs) (xs := xs) (by omega) (by simpa using hl2) (fun i f hf => hx i f (by simpa using hf))
  refine ⟨a, by simpa using hK, fun n hn => ?_, ?_, hg⟩
  · rcases hw n hn with h | ⟨m, hm, hle⟩
    · exact .inl h
    · refine .inr ⟨m, ?_, hle⟩
      show m ∈ (DataW.agg (xs.map (·.1))).weights P t
      rw [DataW.weights, ht]
      exact hm
  · show _ ≤ Rows.uptoBulk (DataW.agg (xs.map (·.1)))
    rw [Rows.uptoBulk]
    omega
theorem opens_iso {d : Kd α} {Wt : α → List Nat} {Bk : α → Nat} {Gd : α → Prop} (f : β → α) (g : α → β) (hfg : ∀ a, f (g a) = a) (h : Opens P t d Wt Bk Gd) : Opens P t (Kd.iso d f) (fun b => Wt (f b)) (fun b => Bk (f b)) (fun b => Gd (f b)) := by
  refine ⟨h.sz, fun {H enc w base spare held fuel cs x} hx => ?_⟩
  obtain ⟨a, hK, hw, hb, hg⟩ := h.out hx
  refine ⟨g a, ?_, ?_, ?_, ?_⟩
  · show d.K w (f (g a)) cs
    rw [hfg]; exact hK
  · rw [hfg]; exact hw
  · rw [hfg]; exact hb
  · rw [hfg]; exact hg

/-- At an argument: its weights are within the reach. -/
theorem arg {H : Type} {enc : TypeId × Value → H} {w : World} {base : Nat} {spare : Nat → Bool} {held : Bool} {v : Value} {dd : DataW H} {ps : List MemPlace} {d : Kd α} {Wt : α → List Nat} {Bk : α → Nat} {Gd : α → Prop} (h : Opens P t d Wt Bk Gd)
    (hx : DataW.Trod enc P w base spare held t v dd ps) : ∃ a, d.K w a v.cells.toList ∧ (∀ n ∈ Wt a, n = 0 ∨ ∃ m ∈ dd.weights P t, n ≤ m) ∧ Bk a ≤ Rows.uptoBulk dd ∧ Gd a := by
  obtain ⟨fuel, hf⟩ := hx
  obtain ⟨a, h1, h2, h3, h4⟩ := h.out hf
  exact ⟨a, h1, h2, h3, h4⟩
/-- Each weight of an argument is within the reach of the form. -/
theorem reach {H : Type} {ts : List TypeId} {ds : List (DataW H)} (h : (DataW.weightsEach P ts ds).all (· ≤ reachBytes) = true) {j : Nat} {t : TypeId} {dd : DataW H} (ht : ts[j]? = some t) (hd : ds[j]? = some dd) {l : List Nat}
    (hw : ∀ n ∈ l, n = 0 ∨ ∃ m ∈ dd.weights P t, n ≤ m) : ∀ n ∈ l, n ≤ 140737488351232 := by
  intro n hn
  rcases hw n hn with h0 | ⟨m, hm, hle⟩
  · omega
  · have := DataW.weights_mem_each ht hd m hm
    rw [List.all_eq_true] at h
    have h1 := of_decide_eq_true (h m this)
    unfold reachBytes at h1
    omega
end
end Go.Proofs.Ytbllmpfdhcbkpaa.Opens
/- Small sums: what a bound on a sum says of each member. -/
namespace Go.Proofs.Ytbllmpfdhcbkpaa.Upto
theorem mem_le {α : Type} (f : α → Nat) : ∀ (l : List α), ∀ x ∈ l, f x ≤ (l.map f).sum
  | [], x, h => by cases h
  | y :: l, x, h => by
    rw [List.map_cons, List.sum_cons]
    rcases List.mem_cons.1 h with rfl | h
    · omega
    · have := mem_le f l x h
      omega
theorem len_le {α : Type} (f : α → Nat) : ∀ (l : List α), (∀ x ∈ l, 1 ≤ f x) → l.length ≤ (l.map f).sum
  | [], _ => Nat.zero_le _
  | y :: l, h => by
    rw [List.map_cons, List.sum_cons, List.length_cons]
    have h1 := h y List.mem_cons_self
    have := len_le f l (fun x hx => h x (List.mem_cons_of_mem _ hx))
    omega
end Go.Proofs.Ytbllmpfdhcbkpaa.Upto
